/- LinkOnce: a round that sends. -/
import Derived.Test.YtjnpdicoopgkoaaM
namespace Go.Proofs.Ytjnpdicoopgkoaa
open Go.RowKit Go.Lib
set_option linter.unusedVariables false
attribute [local go_sem] Act.puts

def firstLoop : Code → Option Code
  | .loop c => some c
  | .seq a b => match firstLoop a with
    | some c => some c
    | none => firstLoop b
  | .block _ c => firstLoop c
  | .scope c => firstLoop c
  | .cond _ a b => match firstLoop a with
    | some c => some c
    | none => firstLoop b
  | _ => none
/-- The body of LinkOnce's loop. -/
noncomputable def onceBody : Code := ((Try.f3.body.bind firstLoop).getD .skip)
set_option maxHeartbeats 40000000 in
set_option maxRecDepth 1000000 in
theorem once_k0 {WA : Option Addr} {wn wc hb ho hn hc : Nat} {words : List Wrd} {w : World} (hbig1 : wn ≤ 9223372036854775807) (hbig2 : hn ≤ 9223372036854775807) (HW : Hid (Sl 1 Wrd.enc w WA words)) (HWN : Hid (words.length = wn))
    {SX GX base gk i : Nat} {wr : World} {s : Snd} {g : Gtr} {sent : List Pce} {acks : List Int} {sA : Option Addr} {sn sc : Nat} {gA : Option Addr} {gn gc : Nat} {gB : Option Addr} {gm gd : Nat} {TA : Option Addr} {tn tc : Nat} {KA : Option Addr} {kn kc : Nat} {q : Int}
    (hgg : 150 - i ≤ gk) (HK : Aside (LK s g sent acks i)) (L : LW w SX GX base wr s g sent acks sA sn sc gA gn gc gB gm gd TA tn tc KA kn kc) (hltn : i < hn) (hlt150 : i < 150) (cq : wr.cell? ⟨hb, ho + i, none⟩ = some (.int .u16 q)) (q0 : 0 ≤ q) (q1 : q ≤ 65535) (hk3 : q % 3 = 0)
    {u4 u11 u12 u13 u14 u15 u16 u17 u18 u19 u25 u26 u27 u28 u29 u30 u31 u32 u33 u34 u35 u36 u37 u38 u39 u40 u41 u42 u43 u44 u45 u46 u47 u48 u49 u50 u51 u52 u53 u54 u55 u56 u57 u58 u59 u60 u61 u62 u63 u64 u65 u66 u67 u68 u69 u70 u71 u72 u73 u74 u75 u76 u77 u78 u79 u80 u81 u82 u83 u84 u85 u86 u87 u88 u89 u90 u91 u92 u93 u94 u95 u96 u97 u98 u99 u100 u101 u102 u103 u104 u105 u106 u107 u108 u109 u110 u111 u112 u113 u114 u115 u116 u117 u118 u119 u120 u121 u122 u123 u124 u125 u126 u127 u128 u129 u130 u131 u132 u133 u134 u135 u136 u137 u138 u139 u140 u141 u142 u143 u144 u145 u146 u147 u148 u149 u150 u151 u152 u153 u154 u155 u156 u157 u158 u159 u160 u161 u162 u163 u164 u165 u166 u167 u168 : Value} {J : Nat → Act → World → Prop} {K : Act → World → Prop} {Q1 : Exit → Act → World → Prop} (hK : ∀ a' w', Handed J gk a' w' → K a' w') (hJ : ∀ (k : Nat) (a' : Act) (w' : World), (∃ u4 u7 u8 u9 u10 u11 u12 u13 u14 u15 u16 u17 u18 u19 u25 u26 u27 u28 u29 u30 u31 u32 u33 u34 u35 u36 u37 u38 u39 u40 u41 u42 u43 u44 u45 u46 u47 u48 u49 u50 u51 u52 u53 u54 u55 u56 u57 u58 u59 u60 u61 u62 u63 u64 u65 u66 u67 u68 u69 u70 u71 u72 u73 u74 u75 u76 u77 u78 u79 u80 u81 u82 u83 u84 u85 u86 u87 u88 u89 u90 u91 u92 u93 u94 u95 u96 u97 u98 u99 u100 u101 u102 u103 u104 u105 u106 u107 u108 u109 u110 u111 u112 u113 u114 u115 u116 u117 u118 u119 u120 u121 u122 u123 u124 u125 u126 u127 u128 u129 u130 u131 u132 u133 u134 u135 u136 u137 u138 u139 u140 u141 u142 u143 u144 u145 u146 u147 u148 u149 u150 u151 u152 u153 u154 u155 u156 u157 u158 u159 u160 u161 u162 u163 u164 u165 u166 u167 u168 : Value, (∃ (i : Nat) (s : Snd) (g : Gtr) (sent : List Pce) (acks : List Int) (sA : Option Addr) (sn sc : Nat) (gA : Option Addr) (gn gc : Nat) (gB : Option Addr) (gm gd : Nat) (TA : Option Addr) (tn tc : Nat) (KA : Option Addr) (kn kc : Nat),
    i ≤ hn ∧ i ≤ 150 ∧ 150 - i ≤ k ∧ u7 = .slice TA tn tc ∧ u8 = .slice KA kn kc ∧ u9 = .int .i64 (tn : Int) ∧ u10 = .int .i64 (i : Int) ∧ Aside (LK s g sent acks i) ∧ LW w SX GX base w' s g sent acks sA sn sc gA gn gc gB gm gd TA tn tc KA kn kc) ∧ a' = (⟨#[.slice WA wn wc, .slice (some ⟨hb, ho, none⟩) hn hc, undef, undef, u4, .pointer (some ⟨SX, 0, none⟩), .pointer (some ⟨GX, 0, none⟩), u7, u8, u9, u10, u11, u12, u13, u14, u15, u16, u17, u18, u19, undef, undef, .bool true, .bool false, .slice (some ⟨base, 0, none⟩) 1 1, u25, u26, u27, u28, u29, u30, u31, u32, u33, u34, u35, u36, u37, u38, u39, u40, u41, u42, u43, u44, u45, u46, u47, u48, u49, u50, u51, u52, u53, u54, u55, u56, u57, u58, u59, u60, u61, u62, u63, u64, u65, u66, u67, u68, u69, u70, u71, u72, u73, u74, u75, u76, u77, u78, u79, u80, u81, u82, u83, u84, u85, u86, u87, u88, u89, u90, u91, u92, u93, u94, u95, u96, u97, u98, u99, u100, u101, u102, u103, u104, u105, u106, u107, u108, u109, u110, u111, u112, u113, u114, u115, u116, u117, u118, u119, u120, u121, u122, u123, u124, u125, u126, u127, u128, u129, u130, u131, u132, u133, u134, u135, u136, u137, u138, u139, u140, u141, u142, u143, u144, u145, u146, u147, u148, u149, u150, u151, u152, u153, u154, u155, u156, u157, u158, u159, u160, u161, u162, u163, u164, u165, u166, u167, u168, undef, undef, undef, undef, undef, undef, undef, undef, undef, undef, undef, undef, undef, undef, undef, undef, undef, undef, undef, undef, undef, undef, undef, undef, undef, undef, undef, undef, undef, undef], []⟩ : Act)) → J k a' w') :
    Code.wp Try.prog onceBody (Exit.then K Q1) (⟨#[.slice WA wn wc, .slice (some ⟨hb, ho, none⟩) hn hc, undef, undef, u4, .pointer (some ⟨SX, 0, none⟩), .pointer (some ⟨GX, 0, none⟩), .slice TA tn tc, .slice KA kn kc, .int .i64 (tn : Int), .int .i64 (i : Int), u11, u12, u13, u14, u15, u16, u17, u18, u19, undef, undef, .bool true, .bool false, .slice (some ⟨base, 0, none⟩) 1 1, u25, u26, u27, u28, u29, u30, u31, u32, u33, u34, u35, u36, u37, u38, u39, u40, u41, u42, u43, u44, u45, u46, u47, u48, u49, u50, u51, u52, u53, u54, u55, u56, u57, u58, u59, u60, u61, u62, u63, u64, u65, u66, u67, u68, u69, u70, u71, u72, u73, u74, u75, u76, u77, u78, u79, u80, u81, u82, u83, u84, u85, u86, u87, u88, u89, u90, u91, u92, u93, u94, u95, u96, u97, u98, u99, u100, u101, u102, u103, u104, u105, u106, u107, u108, u109, u110, u111, u112, u113, u114, u115, u116, u117, u118, u119, u120, u121, u122, u123, u124, u125, u126, u127, u128, u129, u130, u131, u132, u133, u134, u135, u136, u137, u138, u139, u140, u141, u142, u143, u144, u145, u146, u147, u148, u149, u150, u151, u152, u153, u154, u155, u156, u157, u158, u159, u160, u161, u162, u163, u164, u165, u166, u167, u168, undef, undef, undef, undef, undef, undef, undef, undef, undef, undef, undef, undef, undef, undef, undef, undef, undef, undef, undef, undef, undef, undef, undef, undef, undef, undef, undef, undef, undef, undef], []⟩ : Act) wr := by
  conv => arg 2; whnf
  obtain ⟨i34, hi, hz0, hz1, hz2⟩ := info_parts info34
  obtain ⟨i3, ki, kz0, kz1, kz2⟩ := info_parts info3
  have z1 : (i : Int) < (hn : Int) := by omega
  have z2 : (i : Int) < 150 := by omega
  have hk := HK.out
  have l1 := hk.len
  have l2 := hk.alen
  have l3 := hk.apos
  have l4 := hk.gle
  have l5 := hk.o16
  have l6 := hk.gnextle
  have l7 := hk.next
  have l8 := hk.gnext
  rw [L.etn] at l1 l4 l7
  rw [L.ekn] at l2 l3
  rw [L.egm] at l4 l8
  rw [L.esn] at l5
  have hgr := (gRight_iff.1 hk.right).1
  have hgl : gn ≤ 16 := by rw [← L.egn]; exact (gRight_iff.1 hk.right).2.2.1
  have HL7 := Lib.hid l7
  have HL8 := Lib.hid l8
  clear l7 l8
  have k0 : (q % 3 == 0) = true := by rw [beq_iff_eq]; omega
  clear hk3
  by_cases hwt : wn ≤ tn
  · have y1 : (wn : Int) ≤ (tn : Int) := by omega
    go_wp2_with fail
    go_roundg (150 - (i + 1))
    case measure => omega
    case rel => exact ⟨i + 1, _, _, _, _, _, _, _, _, _, _, _, _, _, _, _, _, _, _, _, by omega, by omega, by omega, rfl, rfl, rfl, by go_num, (show Aside _ from hk.step hlt150), L⟩
  · have y1 : ¬ (wn : Int) ≤ (tn : Int) := by omega
    have hwin : tn < words.length := by rw [HWN.out]; omega
    obtain ⟨wb, wo, rfl, hq0⟩ := (HW.out.below L.b).at_ tn hwin
    have qv : wr.drew.cell? ⟨wb, wo + tn, none⟩ = some (.int .u32 words[tn]!.val) := by have := hq0 0 _ rfl; simpa using this
    generalize words[tn]!.val = v at *
    clear hq0 hwin
    by_cases h16 : sn = 16
    · obtain ⟨p, hp⟩ : ∃ p : Pce, p = ⟨0, 0⟩ := ⟨_, rfl⟩
      obtain ⟨s', hs'⟩ : ∃ s', s' = s := ⟨_, rfl⟩
      obtain ⟨k, hkk⟩ : ∃ k : Int, k = 6 := ⟨_, rfl⟩
      have hR : sendS s v = (s', p, k) := by rw [hp, hs', hkk]; exact hk.full v (L.esn.trans h16)
      have y2 : decide ((sn : Int) < 16) = false := decide_eq_false (by omega)
      have y3 : (k == 0) = false := by rw [hkk]; rfl
      have hk2 : LK s' g sent acks (i + 1) := by rw [hs']; exact hk.step hlt150
      clear hp hs' hkk
      have cS := fun wz (hb : Below wr.drew.heap.size wr.drew wz) => send_fresh (send_any sA sc sn s v wz ((L.below (Below.refl _ _).drew).ss.below hb) L.esn (by omega)) hR
      have HK2 := Lib.hid hk2
      clear hk hk2 hR HK
      go_wp2_with fail
      replace L := L.below (Below.refl _ _).drew
      have s0 := L.s0
      have s1 := L.s1
      have fs0 := L.fs0
      have fs1 := L.fs1
      have g0 := L.g0
      have g1 := L.g1
      have g2 := L.g2
      have fg0 := L.fg0
      have fg1 := L.fg1
      have fg2 := L.fg2
      have ltS := L.ltS
      have ltG := L.ltG
      refine wp_region_rg (by kernel_rfl) (by kernel_rfl) [67, 68, 69, 70, 71, 72, 66, 73, 74, 75, 11, 12, 13] (OnceSPhi wr.drew SX s sA sn sc wb wo wn wc tn v s' p k) ?h0 ⟨?q0, ?q1, ?q2, ?q3, ?q4, ?q5, ?q6, ?q7, ?q8, ?q9, ?q10, ?q11, ?q12, ?q13, ?q14, trivial⟩ ?hend
      case h0 => exact ⟨_, _, _, _, _, _, _, _, _, _, _, _, _, _, rfl, ⟨Below.refl _ _, (fun h => by cases h), (fun h => by cases h), (fun h => by cases h), (fun h => by cases h), (fun h => by cases h), (fun h => by cases h), (fun h => by cases h), (fun h => by cases h), (fun h => by cases h), (fun h => by cases h), (fun h => by cases h), (fun h => by cases h), (fun h => by cases h), (fun h => by cases h), (fun h => by cases h), (fun h => by cases h), (fun h => by cases h), (fun h => by cases h), (fun h => by cases h), (fun h => by cases h)⟩, rfl⟩
      case q0 =>
        rintro L vs w' K ⟨u67, u68, u69, u70, u71, u72, u66, u73, u74, u75, u11, u12, u13, wz, rfl, φ, rfl⟩ hL hpre hcl hK G hG
        simp [Region.binds, closedFrom] at hpre hcl
        have ce0 := (φ.b.cell (p := ⟨SX, 0, none⟩) ltS).trans s0
        have ce1 := (φ.b.cell (p := ⟨SX, 1, none⟩) ltS).trans s1
        have hk := hK [(.agg #[.int .i64 s.next, .slice sA sn sc]), u68, u69, u70, u71, u72, u66, u73, u74, u75, u11, u12, u13] wz ⟨_, _, _, _, _, _, _, _, _, _, _, _, _, wz, rfl,
          { b := φ.b,
            s0 := fun _ => rfl,
            s1 := fun h0 => φ.s1 (by simpa using h0),
            s2 := fun h0 => φ.s2 (by simpa using h0),
            s3 := fun h0 => φ.s3 (by simpa using h0),
            s4 := fun h0 => φ.s4 (by simpa using h0),
            s5 := fun h0 => φ.s5 (by simpa using h0),
            s6 := fun h0 => φ.s6 (by simpa using h0),
            s7 := fun h0 => φ.s7 (by simpa using h0),
            s8 := fun h0 => φ.s8 (by simpa using h0),
            s9 := fun h0 => φ.s9 (by simpa using h0),
            x10 := fun h0 => φ.x10 (by simpa using h0),
            z10 := fun h0 h1 => φ.z10 (by simpa using h0) (by simpa using h1),
            y10 := fun h0 => φ.y10 (by simpa using h0),
            d10_0 := fun h0 h1 => φ.d10_0 (by simpa using h0) (by simpa using h1),
            x11 := fun h0 => φ.x11 (by simpa using h0),
            z11 := fun h0 h1 => φ.z11 (by simpa using h0) (by simpa using h1),
            y11 := fun h0 => φ.y11 (by simpa using h0),
            d11_0 := fun h0 h1 => φ.d11_0 (by simpa using h0) (by simpa using h1),
            s14 := fun h0 => φ.s14 (by simpa using h0),
            e10_11 := fun h0 h1 => φ.e10_11 (by simpa using h0) (by simpa using h1) }, rfl⟩
        refine hG ?_
        clear hK φ hG
        revert hk
        go_simp
        first | done | exact fun h => h
      case q1 =>
        rintro L vs w' K ⟨u67, u68, u69, u70, u71, u72, u66, u73, u74, u75, u11, u12, u13, wz, rfl, φ, rfl⟩ hL hpre hcl hK G hG
        simp [Region.binds, closedFrom] at hpre hcl
        have hk := hK [u67, (.slice (some ⟨wb, wo, none⟩) wn wc), u69, u70, u71, u72, u66, u73, u74, u75, u11, u12, u13] wz ⟨_, _, _, _, _, _, _, _, _, _, _, _, _, wz, rfl,
          { b := φ.b,
            s0 := fun h0 => φ.s0 (by simpa using h0),
            s1 := fun _ => rfl,
            s2 := fun h0 => φ.s2 (by simpa using h0),
            s3 := fun h0 => φ.s3 (by simpa using h0),
            s4 := fun h0 => φ.s4 (by simpa using h0),
            s5 := fun h0 => φ.s5 (by simpa using h0),
            s6 := fun h0 => φ.s6 (by simpa using h0),
            s7 := fun h0 => φ.s7 (by simpa using h0),
            s8 := fun h0 => φ.s8 (by simpa using h0),
            s9 := fun h0 => φ.s9 (by simpa using h0),
            x10 := fun h0 => φ.x10 (by simpa using h0),
            z10 := fun h0 h1 => φ.z10 (by simpa using h0) (by simpa using h1),
            y10 := fun h0 => φ.y10 (by simpa using h0),
            d10_0 := fun h0 h1 => φ.d10_0 (by simpa using h0) (by simpa using h1),
            x11 := fun h0 => φ.x11 (by simpa using h0),
            z11 := fun h0 h1 => φ.z11 (by simpa using h0) (by simpa using h1),
            y11 := fun h0 => φ.y11 (by simpa using h0),
            d11_0 := fun h0 h1 => φ.d11_0 (by simpa using h0) (by simpa using h1),
            s14 := fun h0 => φ.s14 (by simpa using h0),
            e10_11 := fun h0 h1 => φ.e10_11 (by simpa using h0) (by simpa using h1) }, rfl⟩
        refine hG ?_
        clear hK φ hG
        revert hk
        go_simp
        first | done | exact fun h => h
      case q2 =>
        rintro L vs w' K ⟨u67, u68, u69, u70, u71, u72, u66, u73, u74, u75, u11, u12, u13, wz, rfl, φ, rfl⟩ hL hpre hcl hK G hG
        simp [Region.binds, closedFrom] at hpre hcl
        have hk := hK [u67, u68, (.int .i64 (tn : Int)), u70, u71, u72, u66, u73, u74, u75, u11, u12, u13] wz ⟨_, _, _, _, _, _, _, _, _, _, _, _, _, wz, rfl,
          { b := φ.b,
            s0 := fun h0 => φ.s0 (by simpa using h0),
            s1 := fun h0 => φ.s1 (by simpa using h0),
            s2 := fun _ => rfl,
            s3 := fun h0 => φ.s3 (by simpa using h0),
            s4 := fun h0 => φ.s4 (by simpa using h0),
            s5 := fun h0 => φ.s5 (by simpa using h0),
            s6 := fun h0 => φ.s6 (by simpa using h0),
            s7 := fun h0 => φ.s7 (by simpa using h0),
            s8 := fun h0 => φ.s8 (by simpa using h0),
            s9 := fun h0 => φ.s9 (by simpa using h0),
            x10 := fun h0 => φ.x10 (by simpa using h0),
            z10 := fun h0 h1 => φ.z10 (by simpa using h0) (by simpa using h1),
            y10 := fun h0 => φ.y10 (by simpa using h0),
            d10_0 := fun h0 h1 => φ.d10_0 (by simpa using h0) (by simpa using h1),
            x11 := fun h0 => φ.x11 (by simpa using h0),
            z11 := fun h0 h1 => φ.z11 (by simpa using h0) (by simpa using h1),
            y11 := fun h0 => φ.y11 (by simpa using h0),
            d11_0 := fun h0 h1 => φ.d11_0 (by simpa using h0) (by simpa using h1),
            s14 := fun h0 => φ.s14 (by simpa using h0),
            e10_11 := fun h0 h1 => φ.e10_11 (by simpa using h0) (by simpa using h1) }, rfl⟩
        refine hG ?_
        clear hK φ hG
        revert hk
        go_simp
        first | done | exact fun h => h
      case q3 =>
        rintro L vs w' K ⟨u67, u68, u69, u70, u71, u72, u66, u73, u74, u75, u11, u12, u13, wz, rfl, φ, rfl⟩ hL hpre hcl hK G hG
        simp [Region.binds, closedFrom] at hpre hcl
        obtain rfl := φ.s1 (by simp [hpre])
        obtain rfl := φ.s2 (by simp [hpre])
        have hk := hK [u67, (.slice (some ⟨wb, wo, none⟩) wn wc), (.int .i64 (tn : Int)), (.pointer (some ⟨wb, wo + tn, none⟩)), u71, u72, u66, u73, u74, u75, u11, u12, u13] wz ⟨_, _, _, _, _, _, _, _, _, _, _, _, _, wz, rfl,
          { b := φ.b,
            s0 := fun h0 => φ.s0 (by simpa using h0),
            s1 := fun h0 => φ.s1 (by simpa using h0),
            s2 := fun h0 => φ.s2 (by simpa using h0),
            s3 := fun _ => rfl,
            s4 := fun h0 => φ.s4 (by simpa using h0),
            s5 := fun h0 => φ.s5 (by simpa using h0),
            s6 := fun h0 => φ.s6 (by simpa using h0),
            s7 := fun h0 => φ.s7 (by simpa using h0),
            s8 := fun h0 => φ.s8 (by simpa using h0),
            s9 := fun h0 => φ.s9 (by simpa using h0),
            x10 := fun h0 => φ.x10 (by simpa using h0),
            z10 := fun h0 h1 => φ.z10 (by simpa using h0) (by simpa using h1),
            y10 := fun h0 => φ.y10 (by simpa using h0),
            d10_0 := fun h0 h1 => φ.d10_0 (by simpa using h0) (by simpa using h1),
            x11 := fun h0 => φ.x11 (by simpa using h0),
            z11 := fun h0 h1 => φ.z11 (by simpa using h0) (by simpa using h1),
            y11 := fun h0 => φ.y11 (by simpa using h0),
            d11_0 := fun h0 h1 => φ.d11_0 (by simpa using h0) (by simpa using h1),
            s14 := fun h0 => φ.s14 (by simpa using h0),
            e10_11 := fun h0 h1 => φ.e10_11 (by simpa using h0) (by simpa using h1) }, rfl⟩
        refine hG ?_
        clear hK φ hG
        revert hk
        go_simp
        first | done | exact fun h => h
      case q4 =>
        rintro L vs w' K ⟨u67, u68, u69, u70, u71, u72, u66, u73, u74, u75, u11, u12, u13, wz, rfl, φ, rfl⟩ hL hpre hcl hK G hG
        simp [Region.binds, closedFrom] at hpre hcl
        obtain rfl := φ.s3 (by simp [hpre])
        have ce0 := (φ.b.cell (p := ⟨wb, wo + tn, none⟩) (World.block_lt_of_cell? _ _ qv)).trans qv
        have hk := hK [u67, u68, u69, (.pointer (some ⟨wb, wo + tn, none⟩)), (.int .u32 v), u72, u66, u73, u74, u75, u11, u12, u13] wz ⟨_, _, _, _, _, _, _, _, _, _, _, _, _, wz, rfl,
          { b := φ.b,
            s0 := fun h0 => φ.s0 (by simpa using h0),
            s1 := fun h0 => φ.s1 (by simpa using h0),
            s2 := fun h0 => φ.s2 (by simpa using h0),
            s3 := fun h0 => φ.s3 (by simpa using h0),
            s4 := fun _ => rfl,
            s5 := fun h0 => φ.s5 (by simpa using h0),
            s6 := fun h0 => φ.s6 (by simpa using h0),
            s7 := fun h0 => φ.s7 (by simpa using h0),
            s8 := fun h0 => φ.s8 (by simpa using h0),
            s9 := fun h0 => φ.s9 (by simpa using h0),
            x10 := fun h0 => φ.x10 (by simpa using h0),
            z10 := fun h0 h1 => φ.z10 (by simpa using h0) (by simpa using h1),
            y10 := fun h0 => φ.y10 (by simpa using h0),
            d10_0 := fun h0 h1 => φ.d10_0 (by simpa using h0) (by simpa using h1),
            x11 := fun h0 => φ.x11 (by simpa using h0),
            z11 := fun h0 h1 => φ.z11 (by simpa using h0) (by simpa using h1),
            y11 := fun h0 => φ.y11 (by simpa using h0),
            d11_0 := fun h0 h1 => φ.d11_0 (by simpa using h0) (by simpa using h1),
            s14 := fun h0 => φ.s14 (by simpa using h0),
            e10_11 := fun h0 h1 => φ.e10_11 (by simpa using h0) (by simpa using h1) }, rfl⟩
        refine hG ?_
        clear hK φ hG
        revert hk
        go_simp
        first | done | exact fun h => h
      case q5 =>
        rintro L vs w' K ⟨u67, u68, u69, u70, u71, u72, u66, u73, u74, u75, u11, u12, u13, wz, rfl, φ, rfl⟩ hL hpre hcl hK G hG
        simp [Region.binds, closedFrom] at hpre hcl
        obtain rfl := φ.s0 (by simp [hpre])
        obtain rfl := φ.s4 (by simp [hpre])
        have L6 : L 6 = false := by
          cases h : L 6 with
          | false => rfl
          | true => simp [h, hL] at hcl
        have L7 : L 7 = false := by
          cases h : L 7 with
          | false => rfl
          | true => simp [h, hL, L6] at hcl
        have L8 : L 8 = false := by
          cases h : L 8 with
          | false => rfl
          | true => simp [h, hL, L6, L7] at hcl
        have L9 : L 9 = false := by
          cases h : L 9 with
          | false => rfl
          | true => simp [h, hL, L6, L7, L8] at hcl
        have L12 : L 12 = false := by
          cases h : L 12 with
          | false => rfl
          | true => simp [h, hL] at hcl
        have L13 : L 13 = false := by
          cases h : L 13 with
          | false => rfl
          | true => simp [h, hL] at hcl
        have L14 : L 14 = false := by
          cases h : L 14 with
          | false => rfl
          | true => simp [h, hL] at hcl
        refine hG (step_call wz rfl 6 #[.tmp 67, .tmp 71] #[27, 32] rfl #[.agg #[.int .i64 s.next, .slice sA sn sc], .int .u32 v] (by simp [Act.eval, Act.puts, Act.put]) (enters_of Try.func6 (by kernel_rfl) rfl) (cS wz φ.b) ?_)
        rintro e w9 ⟨A, n, c, rfl, hl, hsl, hfr, hb9⟩
        refine ⟨_, rfl, ?_⟩
        have hk := hK [(.agg #[.int .i64 s.next, .slice sA sn sc]), u68, u69, u70, (.int .u32 v), (.tuple #[.agg #[.int .i64 s'.next, .slice A n c], .agg #[.int .i64 p.num, .int .u32 p.val], .int .i64 k]), u66, u73, u74, u75, u11, u12, u13] w9 ⟨_, _, _, _, _, _, _, _, _, _, _, _, _, w9, rfl,
          { b := φ.b.trans (hb9.mono φ.b.size),
            s0 := fun h0 => φ.s0 (by simpa using h0),
            s1 := fun h0 => φ.s1 (by simpa using h0),
            s2 := fun h0 => φ.s2 (by simpa using h0),
            s3 := fun h0 => φ.s3 (by simpa using h0),
            s4 := fun h0 => φ.s4 (by simpa using h0),
            s5 := fun _ => ⟨A, n, c, rfl, (hl), (hsl), (fun a e => Nat.le_trans φ.b.size (hfr a e))⟩,
            s6 := fun h => by simp [L6] at h,
            s7 := fun h => by simp [L7] at h,
            s8 := fun h => by simp [L8] at h,
            s9 := fun h => by simp [L9] at h,
            x10 := fun h => by
                obtain ⟨X, y1, y2, y3⟩ := φ.x10 (by simpa using h)
                exact ⟨X, y1, y2, Nat.lt_of_lt_of_le y3 hb9.size⟩,
            z10 := fun h h2 X hX => by
                obtain ⟨X', y1, y2, y3⟩ := φ.x10 (by simpa using h)
                rw [hX] at y1
                obtain rfl : X = X' := by simpa using y1
                exact (hb9.block X y3).trans (φ.z10 (by simpa using h) (by simpa using h2) X hX),
            y10 := fun h => by simp [L12] at h,
            d10_0 := fun _ h X hX => by
                obtain ⟨X', y1, y2, y3⟩ := φ.x10 (by simpa using h)
                rw [hX] at y1
                obtain rfl : X = X' := by simpa using y1
                exact SOff.fresh hfr y3,
            x11 := fun h => by
                obtain ⟨X, y1, y2, y3⟩ := φ.x11 (by simpa using h)
                exact ⟨X, y1, y2, Nat.lt_of_lt_of_le y3 hb9.size⟩,
            z11 := fun h h2 X hX => by
                obtain ⟨X', y1, y2, y3⟩ := φ.x11 (by simpa using h)
                rw [hX] at y1
                obtain rfl : X = X' := by simpa using y1
                exact (hb9.block X y3).trans (φ.z11 (by simpa using h) (by simpa using h2) X hX),
            y11 := fun h => by simp [L13] at h,
            d11_0 := fun _ h X hX => by
                obtain ⟨X', y1, y2, y3⟩ := φ.x11 (by simpa using h)
                rw [hX] at y1
                obtain rfl : X = X' := by simpa using y1
                exact SOff.fresh hfr y3,
            s14 := fun h => by simp [L14] at h,
            e10_11 := fun h0 h1 => φ.e10_11 (by simpa using h0) (by simpa using h1) }, rfl⟩
        clear hK φ hG
        revert hk
        go_simp
        first | done | exact fun h => h
      case q6 =>
        rintro L vs w' K ⟨u67, u68, u69, u70, u71, u72, u66, u73, u74, u75, u11, u12, u13, wz, rfl, φ, rfl⟩ hL hpre hcl hK G hG
        simp [Region.binds, closedFrom] at hpre hcl
        obtain ⟨A, n, c, rfl, hl, hsl, hfr⟩ := φ.s5 (by simp [hpre])
        have hk := hK [u67, u68, u69, u70, u71, (.tuple #[.agg #[.int .i64 s'.next, .slice A n c], .agg #[.int .i64 p.num, .int .u32 p.val], .int .i64 k]), (.tuple #[.agg #[.int .i64 s'.next, .slice A n c], .agg #[.int .i64 p.num, .int .u32 p.val], .int .i64 k]), u73, u74, u75, u11, u12, u13] wz ⟨_, _, _, _, _, _, _, _, _, _, _, _, _, wz, rfl,
          { b := φ.b,
            s0 := fun h0 => φ.s0 (by simpa using h0),
            s1 := fun h0 => φ.s1 (by simpa using h0),
            s2 := fun h0 => φ.s2 (by simpa using h0),
            s3 := fun h0 => φ.s3 (by simpa using h0),
            s4 := fun h0 => φ.s4 (by simpa using h0),
            s5 := fun h0 => φ.s5 (by simpa using h0),
            s6 := fun _ => rfl,
            s7 := fun h0 => φ.s7 (by simpa using h0),
            s8 := fun h0 => φ.s8 (by simpa using h0),
            s9 := fun h0 => φ.s9 (by simpa using h0),
            x10 := fun h0 => φ.x10 (by simpa using h0),
            z10 := fun h0 h1 => φ.z10 (by simpa using h0) (by simpa using h1),
            y10 := fun h0 => φ.y10 (by simpa using h0),
            d10_0 := fun h0 h1 => φ.d10_0 (by simpa using h0) (by simpa using h1),
            x11 := fun h0 => φ.x11 (by simpa using h0),
            z11 := fun h0 h1 => φ.z11 (by simpa using h0) (by simpa using h1),
            y11 := fun h0 => φ.y11 (by simpa using h0),
            d11_0 := fun h0 h1 => φ.d11_0 (by simpa using h0) (by simpa using h1),
            s14 := fun h0 => φ.s14 (by simpa using h0),
            e10_11 := fun h0 h1 => φ.e10_11 (by simpa using h0) (by simpa using h1) }, rfl⟩
        refine hG ?_
        clear hK φ hG
        revert hk
        go_simp
        first | done | exact fun h => h
      case q7 =>
        rintro L vs w' K ⟨u67, u68, u69, u70, u71, u72, u66, u73, u74, u75, u11, u12, u13, wz, rfl, φ, rfl⟩ hL hpre hcl hK G hG
        simp [Region.binds, closedFrom] at hpre hcl
        obtain ⟨A, n, c, rfl, hl, hsl, hfr⟩ := φ.s5 (by simp [hpre, hcl])
        obtain rfl := φ.s6 (by simp [hpre])
        have hk := hK [u67, u68, u69, u70, u71, (.tuple #[.agg #[.int .i64 s'.next, .slice A n c], .agg #[.int .i64 p.num, .int .u32 p.val], .int .i64 k]), (.tuple #[.agg #[.int .i64 s'.next, .slice A n c], .agg #[.int .i64 p.num, .int .u32 p.val], .int .i64 k]), (.agg #[.int .i64 s'.next, .slice A n c]), u74, u75, u11, u12, u13] wz ⟨_, _, _, _, _, _, _, _, _, _, _, _, _, wz, rfl,
          { b := φ.b,
            s0 := fun h0 => φ.s0 (by simpa using h0),
            s1 := fun h0 => φ.s1 (by simpa using h0),
            s2 := fun h0 => φ.s2 (by simpa using h0),
            s3 := fun h0 => φ.s3 (by simpa using h0),
            s4 := fun h0 => φ.s4 (by simpa using h0),
            s5 := fun h0 => φ.s5 (by simpa using h0),
            s6 := fun h0 => φ.s6 (by simpa using h0),
            s7 := fun _ => rfl,
            s8 := fun h0 => φ.s8 (by simpa using h0),
            s9 := fun h0 => φ.s9 (by simpa using h0),
            x10 := fun h0 => φ.x10 (by simpa using h0),
            z10 := fun h0 h1 => φ.z10 (by simpa using h0) (by simpa using h1),
            y10 := fun h0 => φ.y10 (by simpa using h0),
            d10_0 := fun h0 h1 => φ.d10_0 (by simpa using h0) (by simpa using h1),
            x11 := fun h0 => φ.x11 (by simpa using h0),
            z11 := fun h0 h1 => φ.z11 (by simpa using h0) (by simpa using h1),
            y11 := fun h0 => φ.y11 (by simpa using h0),
            d11_0 := fun h0 h1 => φ.d11_0 (by simpa using h0) (by simpa using h1),
            s14 := fun h0 => φ.s14 (by simpa using h0),
            e10_11 := fun h0 h1 => φ.e10_11 (by simpa using h0) (by simpa using h1) }, rfl⟩
        refine hG ?_
        clear hK φ hG
        revert hk
        go_simp
        first | done | exact fun h => h
      case q8 =>
        rintro L vs w' K ⟨u67, u68, u69, u70, u71, u72, u66, u73, u74, u75, u11, u12, u13, wz, rfl, φ, rfl⟩ hL hpre hcl hK G hG
        simp [Region.binds, closedFrom] at hpre hcl
        obtain ⟨A, n, c, rfl, hl, hsl, hfr⟩ := φ.s5 (by simp [hpre, hcl])
        obtain rfl := φ.s6 (by simp [hpre])
        have hk := hK [u67, u68, u69, u70, u71, (.tuple #[.agg #[.int .i64 s'.next, .slice A n c], .agg #[.int .i64 p.num, .int .u32 p.val], .int .i64 k]), (.tuple #[.agg #[.int .i64 s'.next, .slice A n c], .agg #[.int .i64 p.num, .int .u32 p.val], .int .i64 k]), u73, (.agg #[.int .i64 p.num, .int .u32 p.val]), u75, u11, u12, u13] wz ⟨_, _, _, _, _, _, _, _, _, _, _, _, _, wz, rfl,
          { b := φ.b,
            s0 := fun h0 => φ.s0 (by simpa using h0),
            s1 := fun h0 => φ.s1 (by simpa using h0),
            s2 := fun h0 => φ.s2 (by simpa using h0),
            s3 := fun h0 => φ.s3 (by simpa using h0),
            s4 := fun h0 => φ.s4 (by simpa using h0),
            s5 := fun h0 => φ.s5 (by simpa using h0),
            s6 := fun h0 => φ.s6 (by simpa using h0),
            s7 := fun h0 => φ.s7 (by simpa using h0),
            s8 := fun _ => rfl,
            s9 := fun h0 => φ.s9 (by simpa using h0),
            x10 := fun h0 => φ.x10 (by simpa using h0),
            z10 := fun h0 h1 => φ.z10 (by simpa using h0) (by simpa using h1),
            y10 := fun h0 => φ.y10 (by simpa using h0),
            d10_0 := fun h0 h1 => φ.d10_0 (by simpa using h0) (by simpa using h1),
            x11 := fun h0 => φ.x11 (by simpa using h0),
            z11 := fun h0 h1 => φ.z11 (by simpa using h0) (by simpa using h1),
            y11 := fun h0 => φ.y11 (by simpa using h0),
            d11_0 := fun h0 h1 => φ.d11_0 (by simpa using h0) (by simpa using h1),
            s14 := fun h0 => φ.s14 (by simpa using h0),
            e10_11 := fun h0 h1 => φ.e10_11 (by simpa using h0) (by simpa using h1) }, rfl⟩
        refine hG ?_
        clear hK φ hG
        revert hk
        go_simp
        first | done | exact fun h => h
      case q9 =>
        rintro L vs w' K ⟨u67, u68, u69, u70, u71, u72, u66, u73, u74, u75, u11, u12, u13, wz, rfl, φ, rfl⟩ hL hpre hcl hK G hG
        simp [Region.binds, closedFrom] at hpre hcl
        obtain ⟨A, n, c, rfl, hl, hsl, hfr⟩ := φ.s5 (by simp [hpre, hcl])
        obtain rfl := φ.s6 (by simp [hpre])
        have hk := hK [u67, u68, u69, u70, u71, (.tuple #[.agg #[.int .i64 s'.next, .slice A n c], .agg #[.int .i64 p.num, .int .u32 p.val], .int .i64 k]), (.tuple #[.agg #[.int .i64 s'.next, .slice A n c], .agg #[.int .i64 p.num, .int .u32 p.val], .int .i64 k]), u73, u74, (.int .i64 k), u11, u12, u13] wz ⟨_, _, _, _, _, _, _, _, _, _, _, _, _, wz, rfl,
          { b := φ.b,
            s0 := fun h0 => φ.s0 (by simpa using h0),
            s1 := fun h0 => φ.s1 (by simpa using h0),
            s2 := fun h0 => φ.s2 (by simpa using h0),
            s3 := fun h0 => φ.s3 (by simpa using h0),
            s4 := fun h0 => φ.s4 (by simpa using h0),
            s5 := fun h0 => φ.s5 (by simpa using h0),
            s6 := fun h0 => φ.s6 (by simpa using h0),
            s7 := fun h0 => φ.s7 (by simpa using h0),
            s8 := fun h0 => φ.s8 (by simpa using h0),
            s9 := fun _ => rfl,
            x10 := fun h0 => φ.x10 (by simpa using h0),
            z10 := fun h0 h1 => φ.z10 (by simpa using h0) (by simpa using h1),
            y10 := fun h0 => φ.y10 (by simpa using h0),
            d10_0 := fun h0 h1 => φ.d10_0 (by simpa using h0) (by simpa using h1),
            x11 := fun h0 => φ.x11 (by simpa using h0),
            z11 := fun h0 h1 => φ.z11 (by simpa using h0) (by simpa using h1),
            y11 := fun h0 => φ.y11 (by simpa using h0),
            d11_0 := fun h0 h1 => φ.d11_0 (by simpa using h0) (by simpa using h1),
            s14 := fun h0 => φ.s14 (by simpa using h0),
            e10_11 := fun h0 h1 => φ.e10_11 (by simpa using h0) (by simpa using h1) }, rfl⟩
        refine hG ?_
        clear hK φ hG
        revert hk
        go_simp
        first | done | exact fun h => h
      case q10 =>
        rintro L vs w' K ⟨u67, u68, u69, u70, u71, u72, u66, u73, u74, u75, u11, u12, u13, wz, rfl, φ, rfl⟩ hL hpre hcl hK G hG
        simp [Region.binds, closedFrom] at hpre hcl
        have L12 : L 12 = false := by
          cases h : L 12 with
          | false => rfl
          | true => simp [h, hL] at hcl
        have L13 : L 13 = false := by
          cases h : L 13 with
          | false => rfl
          | true => simp [h, hL] at hcl
        have hk := hK [u67, u68, u69, u70, u71, u72, u66, u73, u74, u75, (.pointer (some ⟨wz.heap.size, 0, none⟩)), u12, u13] (wz.alloc (.cells #[.int .i64 0, .slice none 0 0] 27)) ⟨_, _, _, _, _, _, _, _, _, _, _, _, _, (wz.alloc (.cells #[.int .i64 0, .slice none 0 0] 27)), rfl,
          { b := φ.b.alloc φ.b.size _,
            s0 := fun h0 => φ.s0 (by simpa using h0),
            s1 := fun h0 => φ.s1 (by simpa using h0),
            s2 := fun h0 => φ.s2 (by simpa using h0),
            s3 := fun h0 => φ.s3 (by simpa using h0),
            s4 := fun h0 => φ.s4 (by simpa using h0),
            s5 := fun h => by
                obtain ⟨A, n, c, e, hl, hsl, hfr⟩ := φ.s5 (by simpa using h)
                exact ⟨A, n, c, e, hl, hsl.below ((Below.refl _ _).alloc (Nat.le_refl _) _), hfr⟩,
            s6 := fun h0 => φ.s6 (by simpa using h0),
            s7 := fun h0 => φ.s7 (by simpa using h0),
            s8 := fun h0 => φ.s8 (by simpa using h0),
            s9 := fun h0 => φ.s9 (by simpa using h0),
            x10 := fun _ => ⟨wz.heap.size, rfl, φ.b.size, by simp⟩,
            z10 := fun _ _ X hX => by
                obtain rfl : wz.heap.size = X := by simpa using hX
                exact heap_alloc_new wz _,
            y10 := fun h => by simp [L12] at h,
            d10_0 := fun h _ X hX => by
                obtain rfl : wz.heap.size = X := by simpa using hX
                obtain ⟨A, n, c, e, hl, hsl, hfr⟩ := φ.s5 (by simpa using h)
                subst e
                exact SOff.of_sl hsl Pce.enc_len (by decide),
            x11 := fun h => by
                obtain ⟨X, y1, y2, y3⟩ := φ.x11 (by simpa using h)
                exact ⟨X, y1, y2, Nat.lt_of_lt_of_le y3 (by simp)⟩,
            z11 := fun h h2 X hX => by
                obtain ⟨X', y1, y2, y3⟩ := φ.x11 (by simpa using h)
                rw [hX] at y1
                obtain rfl : X = X' := by simpa using y1
                exact (Below.heap_alloc wz _ X y3).trans (φ.z11 (by simpa using h) (by simpa using h2) X hX),
            y11 := fun h => by simp [L13] at h,
            d11_0 := fun h0 h1 => φ.d11_0 (by simpa using h0) (by simpa using h1),
            s14 := fun h0 => φ.s14 (by simpa using h0),
            e10_11 := fun _ h X Y hX hY => by
                obtain rfl : wz.heap.size = X := by simpa using hX
                obtain ⟨Y', y1, y2, y3⟩ := φ.x11 (by simpa using h)
                rw [hY] at y1
                obtain rfl : Y = Y' := by simpa using y1
                omega }, rfl⟩
        refine hG ?_
        clear hK φ hG
        revert hk
        go_simp
        first | done | exact fun h => h
      case q11 =>
        rintro L vs w' K ⟨u67, u68, u69, u70, u71, u72, u66, u73, u74, u75, u11, u12, u13, wz, rfl, φ, rfl⟩ hL hpre hcl hK G hG
        simp [Region.binds, closedFrom] at hpre hcl
        have L13 : L 13 = false := by
          cases h : L 13 with
          | false => rfl
          | true => simp [h, hL] at hcl
        have L12 : L 12 = false := by
          cases h : L 12 with
          | false => rfl
          | true => simp [h, hL] at hcl
        have hk := hK [u67, u68, u69, u70, u71, u72, u66, u73, u74, u75, u11, (.pointer (some ⟨wz.heap.size, 0, none⟩)), u13] (wz.alloc (.cells #[.int .i64 0, .int .u32 0] 34)) ⟨_, _, _, _, _, _, _, _, _, _, _, _, _, (wz.alloc (.cells #[.int .i64 0, .int .u32 0] 34)), rfl,
          { b := φ.b.alloc φ.b.size _,
            s0 := fun h0 => φ.s0 (by simpa using h0),
            s1 := fun h0 => φ.s1 (by simpa using h0),
            s2 := fun h0 => φ.s2 (by simpa using h0),
            s3 := fun h0 => φ.s3 (by simpa using h0),
            s4 := fun h0 => φ.s4 (by simpa using h0),
            s5 := fun h => by
                obtain ⟨A, n, c, e, hl, hsl, hfr⟩ := φ.s5 (by simpa using h)
                exact ⟨A, n, c, e, hl, hsl.below ((Below.refl _ _).alloc (Nat.le_refl _) _), hfr⟩,
            s6 := fun h0 => φ.s6 (by simpa using h0),
            s7 := fun h0 => φ.s7 (by simpa using h0),
            s8 := fun h0 => φ.s8 (by simpa using h0),
            s9 := fun h0 => φ.s9 (by simpa using h0),
            x10 := fun h => by
                obtain ⟨X, y1, y2, y3⟩ := φ.x10 (by simpa using h)
                exact ⟨X, y1, y2, Nat.lt_of_lt_of_le y3 (by simp)⟩,
            z10 := fun h h2 X hX => by
                obtain ⟨X', y1, y2, y3⟩ := φ.x10 (by simpa using h)
                rw [hX] at y1
                obtain rfl : X = X' := by simpa using y1
                exact (Below.heap_alloc wz _ X y3).trans (φ.z10 (by simpa using h) (by simpa using h2) X hX),
            y10 := fun h => by simp [L12] at h,
            d10_0 := fun h0 h1 => φ.d10_0 (by simpa using h0) (by simpa using h1),
            x11 := fun _ => ⟨wz.heap.size, rfl, φ.b.size, by simp⟩,
            z11 := fun _ _ X hX => by
                obtain rfl : wz.heap.size = X := by simpa using hX
                exact heap_alloc_new wz _,
            y11 := fun h => by simp [L13] at h,
            d11_0 := fun h _ X hX => by
                obtain rfl : wz.heap.size = X := by simpa using hX
                obtain ⟨A, n, c, e, hl, hsl, hfr⟩ := φ.s5 (by simpa using h)
                subst e
                exact SOff.of_sl hsl Pce.enc_len (by decide),
            s14 := fun h0 => φ.s14 (by simpa using h0),
            e10_11 := fun h _ X Y hX hY => by
                obtain rfl : wz.heap.size = Y := by simpa using hY
                obtain ⟨X', y1, y2, y3⟩ := φ.x10 (by simpa using h)
                rw [hX] at y1
                obtain rfl : X = X' := by simpa using y1
                omega }, rfl⟩
        refine hG ?_
        clear hK φ hG
        revert hk
        go_simp
        first | done | exact fun h => h
      case q12 =>
        rintro L vs w' K ⟨u67, u68, u69, u70, u71, u72, u66, u73, u74, u75, u11, u12, u13, wz, rfl, φ, rfl⟩ hL hpre hcl hK G hG
        simp [Region.binds, closedFrom] at hpre hcl
        obtain ⟨A, n, c, rfl, hl, hsl, hfr⟩ := φ.s5 (by simp [hpre])
        obtain rfl : u73 = .agg #[.int .i64 s'.next, .slice A n c] := φ.s7 (by simp [hpre])
        obtain ⟨X, rfl, x2, x3⟩ := φ.x10 (by simp [hpre])
        have hz := φ.z10 (by simp [hpre]) hL X rfl
        obtain ⟨yy0, yy1, zz0, zz1⟩ := cells2 hz
        have dd0 := φ.d10_0 (by simp [hpre]) (by simp [hpre]) X rfl
        have hk := hK [u67, u68, u69, u70, u71, (.tuple #[.agg #[.int .i64 s'.next, .slice A n c], .agg #[.int .i64 p.num, .int .u32 p.val], .int .i64 k]), u66, (.agg #[.int .i64 s'.next, .slice A n c]), u74, u75, (.pointer (some ⟨X, 0, none⟩)), u12, u13] ((wz.setCell ⟨X, 0, none⟩ (.int .i64 s'.next)).setCell ⟨X, 1, none⟩ (.slice A n c)) ⟨_, _, _, _, _, _, _, _, _, _, _, _, _, ((wz.setCell ⟨X, 0, none⟩ (.int .i64 s'.next)).setCell ⟨X, 1, none⟩ (.slice A n c)), rfl,
          { b := ((φ.b.setCell (p := ⟨X, 0, none⟩) x2 _).setCell (p := ⟨X, 1, none⟩) x2 _),
            s0 := fun h0 => φ.s0 (by simpa using h0),
            s1 := fun h0 => φ.s1 (by simpa using h0),
            s2 := fun h0 => φ.s2 (by simpa using h0),
            s3 := fun h0 => φ.s3 (by simpa using h0),
            s4 := fun h0 => φ.s4 (by simpa using h0),
            s5 := fun _ => ⟨A, n, c, rfl, hl, SOff.set2 dd0 hsl, hfr⟩,
            s6 := fun h0 => φ.s6 (by simpa using h0),
            s7 := fun h0 => φ.s7 (by simpa using h0),
            s8 := fun h0 => φ.s8 (by simpa using h0),
            s9 := fun h0 => φ.s9 (by simpa using h0),
            x10 := fun _ => ⟨X, rfl, x2, by simpa using x3⟩,
            z10 := fun _ h => by simp at h,
            y10 := fun _ X' hX => by
                obtain rfl : X = X' := by simpa using hX
                exact block_set2 hz,
            d10_0 := fun h0 h1 => φ.d10_0 (by simpa using h0) (by simpa using h1),
            x11 := fun h => by
                obtain ⟨Y, y1, y2, y3⟩ := φ.x11 (by simpa using h)
                exact ⟨Y, y1, y2, by simpa using y3⟩,
            z11 := fun h h2 Y hY => (block_far2 (φ.e10_11 (by simp [hpre]) (by simp [hpre]) X Y rfl hY)).trans (φ.z11 (by simpa using h) (by simpa using h2) Y hY),
            y11 := fun h Y hY => (block_far2 (φ.e10_11 (by simp [hpre]) (by simp [hpre]) X Y rfl hY)).trans (φ.y11 (by simpa using h) Y hY),
            d11_0 := fun h0 h1 => φ.d11_0 (by simpa using h0) (by simpa using h1),
            s14 := fun h0 => φ.s14 (by simpa using h0),
            e10_11 := fun h0 h1 => φ.e10_11 (by simpa using h0) (by simpa using h1) }, rfl⟩
        refine hG ?_
        clear hK φ hG
        revert hk
        go_simp
        first | done | exact fun h => h
      case q13 =>
        rintro L vs w' K ⟨u67, u68, u69, u70, u71, u72, u66, u73, u74, u75, u11, u12, u13, wz, rfl, φ, rfl⟩ hL hpre hcl hK G hG
        simp [Region.binds, closedFrom] at hpre hcl
        obtain ⟨A, n, c, rfl, hl, hsl, hfr⟩ := φ.s5 (by simp [hpre])
        obtain rfl : u74 = .agg #[.int .i64 p.num, .int .u32 p.val] := φ.s8 (by simp [hpre])
        obtain ⟨X, rfl, x2, x3⟩ := φ.x11 (by simp [hpre])
        have hz := φ.z11 (by simp [hpre]) hL X rfl
        obtain ⟨yy0, yy1, zz0, zz1⟩ := cells2 hz
        have dd0 := φ.d11_0 (by simp [hpre]) (by simp [hpre]) X rfl
        have hk := hK [u67, u68, u69, u70, u71, (.tuple #[.agg #[.int .i64 s'.next, .slice A n c], .agg #[.int .i64 p.num, .int .u32 p.val], .int .i64 k]), u66, u73, (.agg #[.int .i64 p.num, .int .u32 p.val]), u75, u11, (.pointer (some ⟨X, 0, none⟩)), u13] ((wz.setCell ⟨X, 0, none⟩ (.int .i64 p.num)).setCell ⟨X, 1, none⟩ (.int .u32 p.val)) ⟨_, _, _, _, _, _, _, _, _, _, _, _, _, ((wz.setCell ⟨X, 0, none⟩ (.int .i64 p.num)).setCell ⟨X, 1, none⟩ (.int .u32 p.val)), rfl,
          { b := ((φ.b.setCell (p := ⟨X, 0, none⟩) x2 _).setCell (p := ⟨X, 1, none⟩) x2 _),
            s0 := fun h0 => φ.s0 (by simpa using h0),
            s1 := fun h0 => φ.s1 (by simpa using h0),
            s2 := fun h0 => φ.s2 (by simpa using h0),
            s3 := fun h0 => φ.s3 (by simpa using h0),
            s4 := fun h0 => φ.s4 (by simpa using h0),
            s5 := fun _ => ⟨A, n, c, rfl, hl, SOff.set2 dd0 hsl, hfr⟩,
            s6 := fun h0 => φ.s6 (by simpa using h0),
            s7 := fun h0 => φ.s7 (by simpa using h0),
            s8 := fun h0 => φ.s8 (by simpa using h0),
            s9 := fun h0 => φ.s9 (by simpa using h0),
            x10 := fun h => by
                obtain ⟨Y, y1, y2, y3⟩ := φ.x10 (by simpa using h)
                exact ⟨Y, y1, y2, by simpa using y3⟩,
            z10 := fun h h2 Y hY => (block_far2 (Ne.symm (φ.e10_11 (by simp [hpre]) (by simp [hpre]) Y X hY rfl))).trans (φ.z10 (by simpa using h) (by simpa using h2) Y hY),
            y10 := fun h Y hY => (block_far2 (Ne.symm (φ.e10_11 (by simp [hpre]) (by simp [hpre]) Y X hY rfl))).trans (φ.y10 (by simpa using h) Y hY),
            d10_0 := fun h0 h1 => φ.d10_0 (by simpa using h0) (by simpa using h1),
            x11 := fun _ => ⟨X, rfl, x2, by simpa using x3⟩,
            z11 := fun _ h => by simp at h,
            y11 := fun _ X' hX => by
                obtain rfl : X = X' := by simpa using hX
                exact block_set2 hz,
            d11_0 := fun h0 h1 => φ.d11_0 (by simpa using h0) (by simpa using h1),
            s14 := fun h0 => φ.s14 (by simpa using h0),
            e10_11 := fun h0 h1 => φ.e10_11 (by simpa using h0) (by simpa using h1) }, rfl⟩
        refine hG ?_
        clear hK φ hG
        revert hk
        go_simp
        first | done | exact fun h => h
      case q14 =>
        rintro L vs w' K ⟨u67, u68, u69, u70, u71, u72, u66, u73, u74, u75, u11, u12, u13, wz, rfl, φ, rfl⟩ hL hpre hcl hK G hG
        simp [Region.binds, closedFrom] at hpre hcl
        obtain ⟨A, n, c, rfl, hl, hsl, hfr⟩ := φ.s5 (by simp [hpre])
        obtain rfl : u75 = .int .i64 k := φ.s9 (by simp [hpre])
        have hk := hK [u67, u68, u69, u70, u71, (.tuple #[.agg #[.int .i64 s'.next, .slice A n c], .agg #[.int .i64 p.num, .int .u32 p.val], .int .i64 k]), u66, u73, u74, (.int .i64 k), u11, u12, (.int .i64 k)] wz ⟨_, _, _, _, _, _, _, _, _, _, _, _, _, wz, rfl,
          { b := φ.b,
            s0 := fun h0 => φ.s0 (by simpa using h0),
            s1 := fun h0 => φ.s1 (by simpa using h0),
            s2 := fun h0 => φ.s2 (by simpa using h0),
            s3 := fun h0 => φ.s3 (by simpa using h0),
            s4 := fun h0 => φ.s4 (by simpa using h0),
            s5 := fun h0 => φ.s5 (by simpa using h0),
            s6 := fun h0 => φ.s6 (by simpa using h0),
            s7 := fun h0 => φ.s7 (by simpa using h0),
            s8 := fun h0 => φ.s8 (by simpa using h0),
            s9 := fun h0 => φ.s9 (by simpa using h0),
            x10 := fun h0 => φ.x10 (by simpa using h0),
            z10 := fun h0 h1 => φ.z10 (by simpa using h0) (by simpa using h1),
            y10 := fun h0 => φ.y10 (by simpa using h0),
            d10_0 := fun h0 h1 => φ.d10_0 (by simpa using h0) (by simpa using h1),
            x11 := fun h0 => φ.x11 (by simpa using h0),
            z11 := fun h0 h1 => φ.z11 (by simpa using h0) (by simpa using h1),
            y11 := fun h0 => φ.y11 (by simpa using h0),
            d11_0 := fun h0 h1 => φ.d11_0 (by simpa using h0) (by simpa using h1),
            s14 := fun _ => rfl,
            e10_11 := fun h0 h1 => φ.e10_11 (by simpa using h0) (by simpa using h1) }, rfl⟩
        refine hG ?_
        clear hK φ hG
        revert hk
        go_simp
        first | done | exact fun h => h
      case hend =>
        rintro vs w' ⟨u67, u68, u69, u70, u71, u72, u66, u73, u74, u75, u11, u12, u13, wz, rfl, φ, rfl⟩ G hG
        have b9 := φ.b
        obtain ⟨A, n, c, rfl, hl, hsl, hfr⟩ := φ.s5 rfl
        obtain ⟨TX, rfl, tx1, tx2⟩ := φ.x10 rfl
        obtain ⟨PX, rfl, px1, px2⟩ := φ.x11 rfl
        obtain ⟨t0, t1, ft0, ft1⟩ := cells2 (φ.y10 rfl TX rfl)
        obtain ⟨p0, p1, fp0, fp1⟩ := cells2 (φ.y11 rfl PX rfl)
        obtain rfl : u13 = .int .i64 k := φ.s14 rfl
        have hfa : OffP (FarP SX GX (.slice TA tn tc) (.slice KA kn kc)) s'.out A := far_old L hfr
        have neX : (Value.slice TA tn tc).ownBlock ≠ some TX := fun e => by have := (L.ownT.lt _ e).2; omega
        have hsz := L.sz
        have hsz2 := b9.size
        clear φ
        replace L := L.below b9
        refine hG ?_
        clear hG cS qv HL7 HL8 b9 px1 px2
        clear s0 s1 fs0 fs1 g0 g1 g2 fg0 fg1 fg2 ltS ltG
        have s0 := L.s0
        have s1 := L.s1
        have fs0 := L.fs0
        have fs1 := L.fs1
        have g0 := L.g0
        have g1 := L.g1
        have g2 := L.g2
        have fg0 := L.fg0
        have fg1 := L.fg1
        have fg2 := L.fg2
        have ltS := L.ltS
        have ltG := L.ltG
        go_wp2_with fail
        replace L := L.setS (n' := n) (c' := c) hsl hl hfa
        generalize (wz.setCell ⟨SX, 0, none⟩ (.int .i64 s'.next)).setCell ⟨SX, 1, none⟩ (.slice A n c) = w20 at *
        clear s0 s1 fs0 fs1 g0 g1 g2 fg0 fg1 fg2 ltS ltG
        have s0 := L.s0
        have s1 := L.s1
        have fs0 := L.fs0
        have fs1 := L.fs1
        have g0 := L.g0
        have g1 := L.g1
        have g2 := L.g2
        have fg0 := L.fg0
        have fg1 := L.fg1
        have fg2 := L.fg2
        have ltS := L.ltS
        have ltG := L.ltG
        have hk2 := HK2.out
        have e1 := hk2.gle
        rw [L.egm, L.etn] at e1
        have y5 : (gm : Int) ≤ (tn : Int) := by omega
        have y6 : ¬ (tn : Int) < (gm : Int) := by omega
        have cR1 := fun w1 (h : Sl 2 Pce.enc w1 A s'.out) => sRight_any A c n s' w1 h L.esn
        have cR2 := fun w1 (h : GtrIn w1 gA gB g) => gRight_any gA gB gc gd gn gm g w1 h.early L.egn
        rw [hk2.sright] at cR1
        rw [hk2.right] at cR2
        clear hk2 e1
        go_wp2_with fail
        refine (cR1 _ L.ss).mono ?_
        rintro e w21 ⟨rfl, hb21⟩
        replace L := L.below hb21
        clear hb21 cR1
        clear s0 s1 fs0 fs1 g0 g1 g2 fg0 fg1 fg2 ltS ltG
        have s0 := L.s0
        have s1 := L.s1
        have fs0 := L.fs0
        have fs1 := L.fs1
        have g0 := L.g0
        have g1 := L.g1
        have g2 := L.g2
        have fg0 := L.fg0
        have fg1 := L.fg1
        have fg2 := L.fg2
        have ltS := L.ltS
        have ltG := L.ltG
        go_wp2_with fail
        refine (cR2 _ L.gi).mono ?_
        rintro e w22 ⟨rfl, hb22⟩
        replace L := L.below hb22
        clear hb22 cR2
        clear s0 s1 fs0 fs1 g0 g1 g2 fg0 fg1 fg2 ltS ltG
        have s0 := L.s0
        have s1 := L.s1
        have fs0 := L.fs0
        have fs1 := L.fs1
        have g0 := L.g0
        have g1 := L.g1
        have g2 := L.g2
        have fg0 := L.fg0
        have fg1 := L.fg1
        have fg2 := L.fg2
        have ltS := L.ltS
        have ltG := L.ltG
        go_wp2_with fail
        obtain ⟨wo, hwo⟩ : ∃ wo : World, wo = w22 := ⟨_, rfl⟩
        subst hwo
        clear s0 s1 fs0 fs1 g0 g1 g2 fg0 fg1 fg2 ltS ltG
        go_loopg [19] gm (fun gg s19 wl => ∃ kk : Nat, kk ≤ gm ∧ gm - kk ≤ gg ∧ s19 = .int .i64 (kk : Int) ∧ Aside (Below wo.heap.size wo wl))
        case atStart => exact ⟨0, Nat.zero_le _, by omega, rfl, Below.refl _ _⟩
        case round =>
          obtain ⟨kk, hkk, hgg2, rfl, HB⟩ := hrel
          have LL := L.below HB.out
          have s0 := LL.s0
          have s1 := LL.s1
          have fs0 := LL.fs0
          have fs1 := LL.fs1
          have g0 := LL.g0
          have g1 := LL.g1
          have g2 := LL.g2
          have fg0 := LL.fg0
          have fg1 := LL.fg1
          have fg2 := LL.fg2
          have ltS := LL.ltS
          have ltG := LL.ltG
          by_cases hlt2 : kk < gm
          · have y7 : (kk : Int) < (gm : Int) := by omega
            have y8 : (kk : Int) < (tn : Int) := by omega
            have hin2 : kk < g.came.length := by rw [LL.egm]; exact hlt2
            obtain ⟨cb, co, hgB, hq2⟩ := LL.gi.came.at_ kk hin2
            obtain ⟨tb2, tj2, hTA, hq3⟩ := (Sl.of_own Pce.enc_len LL.ownT LL.etn).at_ kk (by rw [LL.etn]; omega)
            have c0 : wr.cell? ⟨cb, co + kk, none⟩ = some (.int .u32 g.came[kk]!.val) := by have := hq2 0 _ rfl; simpa using this
            have d1 : wr.cell? ⟨tb2, tj2 + kk * 2 + 1, none⟩ = some (.int .u32 (sent)[kk]!.val) := hq3 1 _ rfl
            rw [HK2.out.val kk hin2] at c0
            generalize (sent)[kk]!.val = x at *
            rw [hgB] at g2
            subst hTA
            have y9 : (x != x) = false := by simp
            clear hq2 hq3 hin2 LL hgB
            go_wp2_with fail
            go_quiet (fail)
            go_wp2_with fail
            go_roundg (gm - (kk + 1))
            case measure => omega
            case rel => exact ⟨kk + 1, by omega, by omega, by go_num, (show Aside _ from bdrewN HB.out _)⟩
          · have y7 : ¬ (kk : Int) < (gm : Int) := by omega
            go_wp2_with fail
            go_roundg (150 - (i + 1))
            case measure => omega
            case rel => exact ⟨i + 1, _, _, _, _, _, _, _, _, _, _, _, _, _, _, _, _, _, _, _, by omega, by omega, by omega, rfl, rfl, rfl, by go_num, (show Aside _ from HK2.out), LL⟩
    · obtain ⟨k, hkk⟩ : ∃ k : Int, k = 0 := ⟨_, rfl⟩
      obtain ⟨s', hR, hk2⟩ := hk.send hlt150 v (by have := L.esn; omega)
      have y2 : decide ((sn : Int) < 16) = true := decide_eq_true (by omega)
      have y3 : (k == 0) = true := by rw [hkk]; rfl
      obtain ⟨p, hp⟩ : ∃ p : Pce, p = ⟨sent.length, v⟩ := ⟨_, rfl⟩
      rw [← hp, ← hkk] at hR
      rw [← hp] at hk2
      clear hp hkk
      have cS := fun wz (hb : Below wr.drew.heap.size wr.drew wz) => send_fresh (send_any sA sc sn s v wz ((L.below (Below.refl _ _).drew).ss.below hb) L.esn (by omega)) hR
      have HK2 := Lib.hid hk2
      clear hk hk2 hR HK
      go_wp2_with fail
      replace L := L.below (Below.refl _ _).drew
      have s0 := L.s0
      have s1 := L.s1
      have fs0 := L.fs0
      have fs1 := L.fs1
      have g0 := L.g0
      have g1 := L.g1
      have g2 := L.g2
      have fg0 := L.fg0
      have fg1 := L.fg1
      have fg2 := L.fg2
      have ltS := L.ltS
      have ltG := L.ltG
      refine wp_region_rg (by kernel_rfl) (by kernel_rfl) [67, 68, 69, 70, 71, 72, 66, 73, 74, 75, 11, 12, 13] (OnceSPhi wr.drew SX s sA sn sc wb wo wn wc tn v s' p k) ?h0 ⟨?q0, ?q1, ?q2, ?q3, ?q4, ?q5, ?q6, ?q7, ?q8, ?q9, ?q10, ?q11, ?q12, ?q13, ?q14, trivial⟩ ?hend
      case h0 => exact ⟨_, _, _, _, _, _, _, _, _, _, _, _, _, _, rfl, ⟨Below.refl _ _, (fun h => by cases h), (fun h => by cases h), (fun h => by cases h), (fun h => by cases h), (fun h => by cases h), (fun h => by cases h), (fun h => by cases h), (fun h => by cases h), (fun h => by cases h), (fun h => by cases h), (fun h => by cases h), (fun h => by cases h), (fun h => by cases h), (fun h => by cases h), (fun h => by cases h), (fun h => by cases h), (fun h => by cases h), (fun h => by cases h), (fun h => by cases h), (fun h => by cases h)⟩, rfl⟩
      case q0 =>
        rintro L vs w' K ⟨u67, u68, u69, u70, u71, u72, u66, u73, u74, u75, u11, u12, u13, wz, rfl, φ, rfl⟩ hL hpre hcl hK G hG
        simp [Region.binds, closedFrom] at hpre hcl
        have ce0 := (φ.b.cell (p := ⟨SX, 0, none⟩) ltS).trans s0
        have ce1 := (φ.b.cell (p := ⟨SX, 1, none⟩) ltS).trans s1
        have hk := hK [(.agg #[.int .i64 s.next, .slice sA sn sc]), u68, u69, u70, u71, u72, u66, u73, u74, u75, u11, u12, u13] wz ⟨_, _, _, _, _, _, _, _, _, _, _, _, _, wz, rfl,
          { b := φ.b,
            s0 := fun _ => rfl,
            s1 := fun h0 => φ.s1 (by simpa using h0),
            s2 := fun h0 => φ.s2 (by simpa using h0),
            s3 := fun h0 => φ.s3 (by simpa using h0),
            s4 := fun h0 => φ.s4 (by simpa using h0),
            s5 := fun h0 => φ.s5 (by simpa using h0),
            s6 := fun h0 => φ.s6 (by simpa using h0),
            s7 := fun h0 => φ.s7 (by simpa using h0),
            s8 := fun h0 => φ.s8 (by simpa using h0),
            s9 := fun h0 => φ.s9 (by simpa using h0),
            x10 := fun h0 => φ.x10 (by simpa using h0),
            z10 := fun h0 h1 => φ.z10 (by simpa using h0) (by simpa using h1),
            y10 := fun h0 => φ.y10 (by simpa using h0),
            d10_0 := fun h0 h1 => φ.d10_0 (by simpa using h0) (by simpa using h1),
            x11 := fun h0 => φ.x11 (by simpa using h0),
            z11 := fun h0 h1 => φ.z11 (by simpa using h0) (by simpa using h1),
            y11 := fun h0 => φ.y11 (by simpa using h0),
            d11_0 := fun h0 h1 => φ.d11_0 (by simpa using h0) (by simpa using h1),
            s14 := fun h0 => φ.s14 (by simpa using h0),
            e10_11 := fun h0 h1 => φ.e10_11 (by simpa using h0) (by simpa using h1) }, rfl⟩
        refine hG ?_
        clear hK φ hG
        revert hk
        go_simp
        first | done | exact fun h => h
      case q1 =>
        rintro L vs w' K ⟨u67, u68, u69, u70, u71, u72, u66, u73, u74, u75, u11, u12, u13, wz, rfl, φ, rfl⟩ hL hpre hcl hK G hG
        simp [Region.binds, closedFrom] at hpre hcl
        have hk := hK [u67, (.slice (some ⟨wb, wo, none⟩) wn wc), u69, u70, u71, u72, u66, u73, u74, u75, u11, u12, u13] wz ⟨_, _, _, _, _, _, _, _, _, _, _, _, _, wz, rfl,
          { b := φ.b,
            s0 := fun h0 => φ.s0 (by simpa using h0),
            s1 := fun _ => rfl,
            s2 := fun h0 => φ.s2 (by simpa using h0),
            s3 := fun h0 => φ.s3 (by simpa using h0),
            s4 := fun h0 => φ.s4 (by simpa using h0),
            s5 := fun h0 => φ.s5 (by simpa using h0),
            s6 := fun h0 => φ.s6 (by simpa using h0),
            s7 := fun h0 => φ.s7 (by simpa using h0),
            s8 := fun h0 => φ.s8 (by simpa using h0),
            s9 := fun h0 => φ.s9 (by simpa using h0),
            x10 := fun h0 => φ.x10 (by simpa using h0),
            z10 := fun h0 h1 => φ.z10 (by simpa using h0) (by simpa using h1),
            y10 := fun h0 => φ.y10 (by simpa using h0),
            d10_0 := fun h0 h1 => φ.d10_0 (by simpa using h0) (by simpa using h1),
            x11 := fun h0 => φ.x11 (by simpa using h0),
            z11 := fun h0 h1 => φ.z11 (by simpa using h0) (by simpa using h1),
            y11 := fun h0 => φ.y11 (by simpa using h0),
            d11_0 := fun h0 h1 => φ.d11_0 (by simpa using h0) (by simpa using h1),
            s14 := fun h0 => φ.s14 (by simpa using h0),
            e10_11 := fun h0 h1 => φ.e10_11 (by simpa using h0) (by simpa using h1) }, rfl⟩
        refine hG ?_
        clear hK φ hG
        revert hk
        go_simp
        first | done | exact fun h => h
      case q2 =>
        rintro L vs w' K ⟨u67, u68, u69, u70, u71, u72, u66, u73, u74, u75, u11, u12, u13, wz, rfl, φ, rfl⟩ hL hpre hcl hK G hG
        simp [Region.binds, closedFrom] at hpre hcl
        have hk := hK [u67, u68, (.int .i64 (tn : Int)), u70, u71, u72, u66, u73, u74, u75, u11, u12, u13] wz ⟨_, _, _, _, _, _, _, _, _, _, _, _, _, wz, rfl,
          { b := φ.b,
            s0 := fun h0 => φ.s0 (by simpa using h0),
            s1 := fun h0 => φ.s1 (by simpa using h0),
            s2 := fun _ => rfl,
            s3 := fun h0 => φ.s3 (by simpa using h0),
            s4 := fun h0 => φ.s4 (by simpa using h0),
            s5 := fun h0 => φ.s5 (by simpa using h0),
            s6 := fun h0 => φ.s6 (by simpa using h0),
            s7 := fun h0 => φ.s7 (by simpa using h0),
            s8 := fun h0 => φ.s8 (by simpa using h0),
            s9 := fun h0 => φ.s9 (by simpa using h0),
            x10 := fun h0 => φ.x10 (by simpa using h0),
            z10 := fun h0 h1 => φ.z10 (by simpa using h0) (by simpa using h1),
            y10 := fun h0 => φ.y10 (by simpa using h0),
            d10_0 := fun h0 h1 => φ.d10_0 (by simpa using h0) (by simpa using h1),
            x11 := fun h0 => φ.x11 (by simpa using h0),
            z11 := fun h0 h1 => φ.z11 (by simpa using h0) (by simpa using h1),
            y11 := fun h0 => φ.y11 (by simpa using h0),
            d11_0 := fun h0 h1 => φ.d11_0 (by simpa using h0) (by simpa using h1),
            s14 := fun h0 => φ.s14 (by simpa using h0),
            e10_11 := fun h0 h1 => φ.e10_11 (by simpa using h0) (by simpa using h1) }, rfl⟩
        refine hG ?_
        clear hK φ hG
        revert hk
        go_simp
        first | done | exact fun h => h
      case q3 =>
        rintro L vs w' K ⟨u67, u68, u69, u70, u71, u72, u66, u73, u74, u75, u11, u12, u13, wz, rfl, φ, rfl⟩ hL hpre hcl hK G hG
        simp [Region.binds, closedFrom] at hpre hcl
        obtain rfl := φ.s1 (by simp [hpre])
        obtain rfl := φ.s2 (by simp [hpre])
        have hk := hK [u67, (.slice (some ⟨wb, wo, none⟩) wn wc), (.int .i64 (tn : Int)), (.pointer (some ⟨wb, wo + tn, none⟩)), u71, u72, u66, u73, u74, u75, u11, u12, u13] wz ⟨_, _, _, _, _, _, _, _, _, _, _, _, _, wz, rfl,
          { b := φ.b,
            s0 := fun h0 => φ.s0 (by simpa using h0),
            s1 := fun h0 => φ.s1 (by simpa using h0),
            s2 := fun h0 => φ.s2 (by simpa using h0),
            s3 := fun _ => rfl,
            s4 := fun h0 => φ.s4 (by simpa using h0),
            s5 := fun h0 => φ.s5 (by simpa using h0),
            s6 := fun h0 => φ.s6 (by simpa using h0),
            s7 := fun h0 => φ.s7 (by simpa using h0),
            s8 := fun h0 => φ.s8 (by simpa using h0),
            s9 := fun h0 => φ.s9 (by simpa using h0),
            x10 := fun h0 => φ.x10 (by simpa using h0),
            z10 := fun h0 h1 => φ.z10 (by simpa using h0) (by simpa using h1),
            y10 := fun h0 => φ.y10 (by simpa using h0),
            d10_0 := fun h0 h1 => φ.d10_0 (by simpa using h0) (by simpa using h1),
            x11 := fun h0 => φ.x11 (by simpa using h0),
            z11 := fun h0 h1 => φ.z11 (by simpa using h0) (by simpa using h1),
            y11 := fun h0 => φ.y11 (by simpa using h0),
            d11_0 := fun h0 h1 => φ.d11_0 (by simpa using h0) (by simpa using h1),
            s14 := fun h0 => φ.s14 (by simpa using h0),
            e10_11 := fun h0 h1 => φ.e10_11 (by simpa using h0) (by simpa using h1) }, rfl⟩
        refine hG ?_
        clear hK φ hG
        revert hk
        go_simp
        first | done | exact fun h => h
      case q4 =>
        rintro L vs w' K ⟨u67, u68, u69, u70, u71, u72, u66, u73, u74, u75, u11, u12, u13, wz, rfl, φ, rfl⟩ hL hpre hcl hK G hG
        simp [Region.binds, closedFrom] at hpre hcl
        obtain rfl := φ.s3 (by simp [hpre])
        have ce0 := (φ.b.cell (p := ⟨wb, wo + tn, none⟩) (World.block_lt_of_cell? _ _ qv)).trans qv
        have hk := hK [u67, u68, u69, (.pointer (some ⟨wb, wo + tn, none⟩)), (.int .u32 v), u72, u66, u73, u74, u75, u11, u12, u13] wz ⟨_, _, _, _, _, _, _, _, _, _, _, _, _, wz, rfl,
          { b := φ.b,
            s0 := fun h0 => φ.s0 (by simpa using h0),
            s1 := fun h0 => φ.s1 (by simpa using h0),
            s2 := fun h0 => φ.s2 (by simpa using h0),
            s3 := fun h0 => φ.s3 (by simpa using h0),
            s4 := fun _ => rfl,
            s5 := fun h0 => φ.s5 (by simpa using h0),
            s6 := fun h0 => φ.s6 (by simpa using h0),
            s7 := fun h0 => φ.s7 (by simpa using h0),
            s8 := fun h0 => φ.s8 (by simpa using h0),
            s9 := fun h0 => φ.s9 (by simpa using h0),
            x10 := fun h0 => φ.x10 (by simpa using h0),
            z10 := fun h0 h1 => φ.z10 (by simpa using h0) (by simpa using h1),
            y10 := fun h0 => φ.y10 (by simpa using h0),
            d10_0 := fun h0 h1 => φ.d10_0 (by simpa using h0) (by simpa using h1),
            x11 := fun h0 => φ.x11 (by simpa using h0),
            z11 := fun h0 h1 => φ.z11 (by simpa using h0) (by simpa using h1),
            y11 := fun h0 => φ.y11 (by simpa using h0),
            d11_0 := fun h0 h1 => φ.d11_0 (by simpa using h0) (by simpa using h1),
            s14 := fun h0 => φ.s14 (by simpa using h0),
            e10_11 := fun h0 h1 => φ.e10_11 (by simpa using h0) (by simpa using h1) }, rfl⟩
        refine hG ?_
        clear hK φ hG
        revert hk
        go_simp
        first | done | exact fun h => h
      case q5 =>
        rintro L vs w' K ⟨u67, u68, u69, u70, u71, u72, u66, u73, u74, u75, u11, u12, u13, wz, rfl, φ, rfl⟩ hL hpre hcl hK G hG
        simp [Region.binds, closedFrom] at hpre hcl
        obtain rfl := φ.s0 (by simp [hpre])
        obtain rfl := φ.s4 (by simp [hpre])
        have L6 : L 6 = false := by
          cases h : L 6 with
          | false => rfl
          | true => simp [h, hL] at hcl
        have L7 : L 7 = false := by
          cases h : L 7 with
          | false => rfl
          | true => simp [h, hL, L6] at hcl
        have L8 : L 8 = false := by
          cases h : L 8 with
          | false => rfl
          | true => simp [h, hL, L6, L7] at hcl
        have L9 : L 9 = false := by
          cases h : L 9 with
          | false => rfl
          | true => simp [h, hL, L6, L7, L8] at hcl
        have L12 : L 12 = false := by
          cases h : L 12 with
          | false => rfl
          | true => simp [h, hL] at hcl
        have L13 : L 13 = false := by
          cases h : L 13 with
          | false => rfl
          | true => simp [h, hL] at hcl
        have L14 : L 14 = false := by
          cases h : L 14 with
          | false => rfl
          | true => simp [h, hL] at hcl
        refine hG (step_call wz rfl 6 #[.tmp 67, .tmp 71] #[27, 32] rfl #[.agg #[.int .i64 s.next, .slice sA sn sc], .int .u32 v] (by simp [Act.eval, Act.puts, Act.put]) (enters_of Try.func6 (by kernel_rfl) rfl) (cS wz φ.b) ?_)
        rintro e w9 ⟨A, n, c, rfl, hl, hsl, hfr, hb9⟩
        refine ⟨_, rfl, ?_⟩
        have hk := hK [(.agg #[.int .i64 s.next, .slice sA sn sc]), u68, u69, u70, (.int .u32 v), (.tuple #[.agg #[.int .i64 s'.next, .slice A n c], .agg #[.int .i64 p.num, .int .u32 p.val], .int .i64 k]), u66, u73, u74, u75, u11, u12, u13] w9 ⟨_, _, _, _, _, _, _, _, _, _, _, _, _, w9, rfl,
          { b := φ.b.trans (hb9.mono φ.b.size),
            s0 := fun h0 => φ.s0 (by simpa using h0),
            s1 := fun h0 => φ.s1 (by simpa using h0),
            s2 := fun h0 => φ.s2 (by simpa using h0),
            s3 := fun h0 => φ.s3 (by simpa using h0),
            s4 := fun h0 => φ.s4 (by simpa using h0),
            s5 := fun _ => ⟨A, n, c, rfl, (hl), (hsl), (fun a e => Nat.le_trans φ.b.size (hfr a e))⟩,
            s6 := fun h => by simp [L6] at h,
            s7 := fun h => by simp [L7] at h,
            s8 := fun h => by simp [L8] at h,
            s9 := fun h => by simp [L9] at h,
            x10 := fun h => by
                obtain ⟨X, y1, y2, y3⟩ := φ.x10 (by simpa using h)
                exact ⟨X, y1, y2, Nat.lt_of_lt_of_le y3 hb9.size⟩,
            z10 := fun h h2 X hX => by
                obtain ⟨X', y1, y2, y3⟩ := φ.x10 (by simpa using h)
                rw [hX] at y1
                obtain rfl : X = X' := by simpa using y1
                exact (hb9.block X y3).trans (φ.z10 (by simpa using h) (by simpa using h2) X hX),
            y10 := fun h => by simp [L12] at h,
            d10_0 := fun _ h X hX => by
                obtain ⟨X', y1, y2, y3⟩ := φ.x10 (by simpa using h)
                rw [hX] at y1
                obtain rfl : X = X' := by simpa using y1
                exact SOff.fresh hfr y3,
            x11 := fun h => by
                obtain ⟨X, y1, y2, y3⟩ := φ.x11 (by simpa using h)
                exact ⟨X, y1, y2, Nat.lt_of_lt_of_le y3 hb9.size⟩,
            z11 := fun h h2 X hX => by
                obtain ⟨X', y1, y2, y3⟩ := φ.x11 (by simpa using h)
                rw [hX] at y1
                obtain rfl : X = X' := by simpa using y1
                exact (hb9.block X y3).trans (φ.z11 (by simpa using h) (by simpa using h2) X hX),
            y11 := fun h => by simp [L13] at h,
            d11_0 := fun _ h X hX => by
                obtain ⟨X', y1, y2, y3⟩ := φ.x11 (by simpa using h)
                rw [hX] at y1
                obtain rfl : X = X' := by simpa using y1
                exact SOff.fresh hfr y3,
            s14 := fun h => by simp [L14] at h,
            e10_11 := fun h0 h1 => φ.e10_11 (by simpa using h0) (by simpa using h1) }, rfl⟩
        clear hK φ hG
        revert hk
        go_simp
        first | done | exact fun h => h
      case q6 =>
        rintro L vs w' K ⟨u67, u68, u69, u70, u71, u72, u66, u73, u74, u75, u11, u12, u13, wz, rfl, φ, rfl⟩ hL hpre hcl hK G hG
        simp [Region.binds, closedFrom] at hpre hcl
        obtain ⟨A, n, c, rfl, hl, hsl, hfr⟩ := φ.s5 (by simp [hpre])
        have hk := hK [u67, u68, u69, u70, u71, (.tuple #[.agg #[.int .i64 s'.next, .slice A n c], .agg #[.int .i64 p.num, .int .u32 p.val], .int .i64 k]), (.tuple #[.agg #[.int .i64 s'.next, .slice A n c], .agg #[.int .i64 p.num, .int .u32 p.val], .int .i64 k]), u73, u74, u75, u11, u12, u13] wz ⟨_, _, _, _, _, _, _, _, _, _, _, _, _, wz, rfl,
          { b := φ.b,
            s0 := fun h0 => φ.s0 (by simpa using h0),
            s1 := fun h0 => φ.s1 (by simpa using h0),
            s2 := fun h0 => φ.s2 (by simpa using h0),
            s3 := fun h0 => φ.s3 (by simpa using h0),
            s4 := fun h0 => φ.s4 (by simpa using h0),
            s5 := fun h0 => φ.s5 (by simpa using h0),
            s6 := fun _ => rfl,
            s7 := fun h0 => φ.s7 (by simpa using h0),
            s8 := fun h0 => φ.s8 (by simpa using h0),
            s9 := fun h0 => φ.s9 (by simpa using h0),
            x10 := fun h0 => φ.x10 (by simpa using h0),
            z10 := fun h0 h1 => φ.z10 (by simpa using h0) (by simpa using h1),
            y10 := fun h0 => φ.y10 (by simpa using h0),
            d10_0 := fun h0 h1 => φ.d10_0 (by simpa using h0) (by simpa using h1),
            x11 := fun h0 => φ.x11 (by simpa using h0),
            z11 := fun h0 h1 => φ.z11 (by simpa using h0) (by simpa using h1),
            y11 := fun h0 => φ.y11 (by simpa using h0),
            d11_0 := fun h0 h1 => φ.d11_0 (by simpa using h0) (by simpa using h1),
            s14 := fun h0 => φ.s14 (by simpa using h0),
            e10_11 := fun h0 h1 => φ.e10_11 (by simpa using h0) (by simpa using h1) }, rfl⟩
        refine hG ?_
        clear hK φ hG
        revert hk
        go_simp
        first | done | exact fun h => h
      case q7 =>
        rintro L vs w' K ⟨u67, u68, u69, u70, u71, u72, u66, u73, u74, u75, u11, u12, u13, wz, rfl, φ, rfl⟩ hL hpre hcl hK G hG
        simp [Region.binds, closedFrom] at hpre hcl
        obtain ⟨A, n, c, rfl, hl, hsl, hfr⟩ := φ.s5 (by simp [hpre, hcl])
        obtain rfl := φ.s6 (by simp [hpre])
        have hk := hK [u67, u68, u69, u70, u71, (.tuple #[.agg #[.int .i64 s'.next, .slice A n c], .agg #[.int .i64 p.num, .int .u32 p.val], .int .i64 k]), (.tuple #[.agg #[.int .i64 s'.next, .slice A n c], .agg #[.int .i64 p.num, .int .u32 p.val], .int .i64 k]), (.agg #[.int .i64 s'.next, .slice A n c]), u74, u75, u11, u12, u13] wz ⟨_, _, _, _, _, _, _, _, _, _, _, _, _, wz, rfl,
          { b := φ.b,
            s0 := fun h0 => φ.s0 (by simpa using h0),
            s1 := fun h0 => φ.s1 (by simpa using h0),
            s2 := fun h0 => φ.s2 (by simpa using h0),
            s3 := fun h0 => φ.s3 (by simpa using h0),
            s4 := fun h0 => φ.s4 (by simpa using h0),
            s5 := fun h0 => φ.s5 (by simpa using h0),
            s6 := fun h0 => φ.s6 (by simpa using h0),
            s7 := fun _ => rfl,
            s8 := fun h0 => φ.s8 (by simpa using h0),
            s9 := fun h0 => φ.s9 (by simpa using h0),
            x10 := fun h0 => φ.x10 (by simpa using h0),
            z10 := fun h0 h1 => φ.z10 (by simpa using h0) (by simpa using h1),
            y10 := fun h0 => φ.y10 (by simpa using h0),
            d10_0 := fun h0 h1 => φ.d10_0 (by simpa using h0) (by simpa using h1),
            x11 := fun h0 => φ.x11 (by simpa using h0),
            z11 := fun h0 h1 => φ.z11 (by simpa using h0) (by simpa using h1),
            y11 := fun h0 => φ.y11 (by simpa using h0),
            d11_0 := fun h0 h1 => φ.d11_0 (by simpa using h0) (by simpa using h1),
            s14 := fun h0 => φ.s14 (by simpa using h0),
            e10_11 := fun h0 h1 => φ.e10_11 (by simpa using h0) (by simpa using h1) }, rfl⟩
        refine hG ?_
        clear hK φ hG
        revert hk
        go_simp
        first | done | exact fun h => h
      case q8 =>
        rintro L vs w' K ⟨u67, u68, u69, u70, u71, u72, u66, u73, u74, u75, u11, u12, u13, wz, rfl, φ, rfl⟩ hL hpre hcl hK G hG
        simp [Region.binds, closedFrom] at hpre hcl
        obtain ⟨A, n, c, rfl, hl, hsl, hfr⟩ := φ.s5 (by simp [hpre, hcl])
        obtain rfl := φ.s6 (by simp [hpre])
        have hk := hK [u67, u68, u69, u70, u71, (.tuple #[.agg #[.int .i64 s'.next, .slice A n c], .agg #[.int .i64 p.num, .int .u32 p.val], .int .i64 k]), (.tuple #[.agg #[.int .i64 s'.next, .slice A n c], .agg #[.int .i64 p.num, .int .u32 p.val], .int .i64 k]), u73, (.agg #[.int .i64 p.num, .int .u32 p.val]), u75, u11, u12, u13] wz ⟨_, _, _, _, _, _, _, _, _, _, _, _, _, wz, rfl,
          { b := φ.b,
            s0 := fun h0 => φ.s0 (by simpa using h0),
            s1 := fun h0 => φ.s1 (by simpa using h0),
            s2 := fun h0 => φ.s2 (by simpa using h0),
            s3 := fun h0 => φ.s3 (by simpa using h0),
            s4 := fun h0 => φ.s4 (by simpa using h0),
            s5 := fun h0 => φ.s5 (by simpa using h0),
            s6 := fun h0 => φ.s6 (by simpa using h0),
            s7 := fun h0 => φ.s7 (by simpa using h0),
            s8 := fun _ => rfl,
            s9 := fun h0 => φ.s9 (by simpa using h0),
            x10 := fun h0 => φ.x10 (by simpa using h0),
            z10 := fun h0 h1 => φ.z10 (by simpa using h0) (by simpa using h1),
            y10 := fun h0 => φ.y10 (by simpa using h0),
            d10_0 := fun h0 h1 => φ.d10_0 (by simpa using h0) (by simpa using h1),
            x11 := fun h0 => φ.x11 (by simpa using h0),
            z11 := fun h0 h1 => φ.z11 (by simpa using h0) (by simpa using h1),
            y11 := fun h0 => φ.y11 (by simpa using h0),
            d11_0 := fun h0 h1 => φ.d11_0 (by simpa using h0) (by simpa using h1),
            s14 := fun h0 => φ.s14 (by simpa using h0),
            e10_11 := fun h0 h1 => φ.e10_11 (by simpa using h0) (by simpa using h1) }, rfl⟩
        refine hG ?_
        clear hK φ hG
        revert hk
        go_simp
        first | done | exact fun h => h
      case q9 =>
        rintro L vs w' K ⟨u67, u68, u69, u70, u71, u72, u66, u73, u74, u75, u11, u12, u13, wz, rfl, φ, rfl⟩ hL hpre hcl hK G hG
        simp [Region.binds, closedFrom] at hpre hcl
        obtain ⟨A, n, c, rfl, hl, hsl, hfr⟩ := φ.s5 (by simp [hpre, hcl])
        obtain rfl := φ.s6 (by simp [hpre])
        have hk := hK [u67, u68, u69, u70, u71, (.tuple #[.agg #[.int .i64 s'.next, .slice A n c], .agg #[.int .i64 p.num, .int .u32 p.val], .int .i64 k]), (.tuple #[.agg #[.int .i64 s'.next, .slice A n c], .agg #[.int .i64 p.num, .int .u32 p.val], .int .i64 k]), u73, u74, (.int .i64 k), u11, u12, u13] wz ⟨_, _, _, _, _, _, _, _, _, _, _, _, _, wz, rfl,
          { b := φ.b,
            s0 := fun h0 => φ.s0 (by simpa using h0),
            s1 := fun h0 => φ.s1 (by simpa using h0),
            s2 := fun h0 => φ.s2 (by simpa using h0),
            s3 := fun h0 => φ.s3 (by simpa using h0),
            s4 := fun h0 => φ.s4 (by simpa using h0),
            s5 := fun h0 => φ.s5 (by simpa using h0),
            s6 := fun h0 => φ.s6 (by simpa using h0),
            s7 := fun h0 => φ.s7 (by simpa using h0),
            s8 := fun h0 => φ.s8 (by simpa using h0),
            s9 := fun _ => rfl,
            x10 := fun h0 => φ.x10 (by simpa using h0),
            z10 := fun h0 h1 => φ.z10 (by simpa using h0) (by simpa using h1),
            y10 := fun h0 => φ.y10 (by simpa using h0),
            d10_0 := fun h0 h1 => φ.d10_0 (by simpa using h0) (by simpa using h1),
            x11 := fun h0 => φ.x11 (by simpa using h0),
            z11 := fun h0 h1 => φ.z11 (by simpa using h0) (by simpa using h1),
            y11 := fun h0 => φ.y11 (by simpa using h0),
            d11_0 := fun h0 h1 => φ.d11_0 (by simpa using h0) (by simpa using h1),
            s14 := fun h0 => φ.s14 (by simpa using h0),
            e10_11 := fun h0 h1 => φ.e10_11 (by simpa using h0) (by simpa using h1) }, rfl⟩
        refine hG ?_
        clear hK φ hG
        revert hk
        go_simp
        first | done | exact fun h => h
      case q10 =>
        rintro L vs w' K ⟨u67, u68, u69, u70, u71, u72, u66, u73, u74, u75, u11, u12, u13, wz, rfl, φ, rfl⟩ hL hpre hcl hK G hG
        simp [Region.binds, closedFrom] at hpre hcl
        have L12 : L 12 = false := by
          cases h : L 12 with
          | false => rfl
          | true => simp [h, hL] at hcl
        have L13 : L 13 = false := by
          cases h : L 13 with
          | false => rfl
          | true => simp [h, hL] at hcl
        have hk := hK [u67, u68, u69, u70, u71, u72, u66, u73, u74, u75, (.pointer (some ⟨wz.heap.size, 0, none⟩)), u12, u13] (wz.alloc (.cells #[.int .i64 0, .slice none 0 0] 27)) ⟨_, _, _, _, _, _, _, _, _, _, _, _, _, (wz.alloc (.cells #[.int .i64 0, .slice none 0 0] 27)), rfl,
          { b := φ.b.alloc φ.b.size _,
            s0 := fun h0 => φ.s0 (by simpa using h0),
            s1 := fun h0 => φ.s1 (by simpa using h0),
            s2 := fun h0 => φ.s2 (by simpa using h0),
            s3 := fun h0 => φ.s3 (by simpa using h0),
            s4 := fun h0 => φ.s4 (by simpa using h0),
            s5 := fun h => by
                obtain ⟨A, n, c, e, hl, hsl, hfr⟩ := φ.s5 (by simpa using h)
                exact ⟨A, n, c, e, hl, hsl.below ((Below.refl _ _).alloc (Nat.le_refl _) _), hfr⟩,
            s6 := fun h0 => φ.s6 (by simpa using h0),
            s7 := fun h0 => φ.s7 (by simpa using h0),
            s8 := fun h0 => φ.s8 (by simpa using h0),
            s9 := fun h0 => φ.s9 (by simpa using h0),
            x10 := fun _ => ⟨wz.heap.size, rfl, φ.b.size, by simp⟩,
            z10 := fun _ _ X hX => by
                obtain rfl : wz.heap.size = X := by simpa using hX
                exact heap_alloc_new wz _,
            y10 := fun h => by simp [L12] at h,
            d10_0 := fun h _ X hX => by
                obtain rfl : wz.heap.size = X := by simpa using hX
                obtain ⟨A, n, c, e, hl, hsl, hfr⟩ := φ.s5 (by simpa using h)
                subst e
                exact SOff.of_sl hsl Pce.enc_len (by decide),
            x11 := fun h => by
                obtain ⟨X, y1, y2, y3⟩ := φ.x11 (by simpa using h)
                exact ⟨X, y1, y2, Nat.lt_of_lt_of_le y3 (by simp)⟩,
            z11 := fun h h2 X hX => by
                obtain ⟨X', y1, y2, y3⟩ := φ.x11 (by simpa using h)
                rw [hX] at y1
                obtain rfl : X = X' := by simpa using y1
                exact (Below.heap_alloc wz _ X y3).trans (φ.z11 (by simpa using h) (by simpa using h2) X hX),
            y11 := fun h => by simp [L13] at h,
            d11_0 := fun h0 h1 => φ.d11_0 (by simpa using h0) (by simpa using h1),
            s14 := fun h0 => φ.s14 (by simpa using h0),
            e10_11 := fun _ h X Y hX hY => by
                obtain rfl : wz.heap.size = X := by simpa using hX
                obtain ⟨Y', y1, y2, y3⟩ := φ.x11 (by simpa using h)
                rw [hY] at y1
                obtain rfl : Y = Y' := by simpa using y1
                omega }, rfl⟩
        refine hG ?_
        clear hK φ hG
        revert hk
        go_simp
        first | done | exact fun h => h
      case q11 =>
        rintro L vs w' K ⟨u67, u68, u69, u70, u71, u72, u66, u73, u74, u75, u11, u12, u13, wz, rfl, φ, rfl⟩ hL hpre hcl hK G hG
        simp [Region.binds, closedFrom] at hpre hcl
        have L13 : L 13 = false := by
          cases h : L 13 with
          | false => rfl
          | true => simp [h, hL] at hcl
        have L12 : L 12 = false := by
          cases h : L 12 with
          | false => rfl
          | true => simp [h, hL] at hcl
        have hk := hK [u67, u68, u69, u70, u71, u72, u66, u73, u74, u75, u11, (.pointer (some ⟨wz.heap.size, 0, none⟩)), u13] (wz.alloc (.cells #[.int .i64 0, .int .u32 0] 34)) ⟨_, _, _, _, _, _, _, _, _, _, _, _, _, (wz.alloc (.cells #[.int .i64 0, .int .u32 0] 34)), rfl,
          { b := φ.b.alloc φ.b.size _,
            s0 := fun h0 => φ.s0 (by simpa using h0),
            s1 := fun h0 => φ.s1 (by simpa using h0),
            s2 := fun h0 => φ.s2 (by simpa using h0),
            s3 := fun h0 => φ.s3 (by simpa using h0),
            s4 := fun h0 => φ.s4 (by simpa using h0),
            s5 := fun h => by
                obtain ⟨A, n, c, e, hl, hsl, hfr⟩ := φ.s5 (by simpa using h)
                exact ⟨A, n, c, e, hl, hsl.below ((Below.refl _ _).alloc (Nat.le_refl _) _), hfr⟩,
            s6 := fun h0 => φ.s6 (by simpa using h0),
            s7 := fun h0 => φ.s7 (by simpa using h0),
            s8 := fun h0 => φ.s8 (by simpa using h0),
            s9 := fun h0 => φ.s9 (by simpa using h0),
            x10 := fun h => by
                obtain ⟨X, y1, y2, y3⟩ := φ.x10 (by simpa using h)
                exact ⟨X, y1, y2, Nat.lt_of_lt_of_le y3 (by simp)⟩,
            z10 := fun h h2 X hX => by
                obtain ⟨X', y1, y2, y3⟩ := φ.x10 (by simpa using h)
                rw [hX] at y1
                obtain rfl : X = X' := by simpa using y1
                exact (Below.heap_alloc wz _ X y3).trans (φ.z10 (by simpa using h) (by simpa using h2) X hX),
            y10 := fun h => by simp [L12] at h,
            d10_0 := fun h0 h1 => φ.d10_0 (by simpa using h0) (by simpa using h1),
            x11 := fun _ => ⟨wz.heap.size, rfl, φ.b.size, by simp⟩,
            z11 := fun _ _ X hX => by
                obtain rfl : wz.heap.size = X := by simpa using hX
                exact heap_alloc_new wz _,
            y11 := fun h => by simp [L13] at h,
            d11_0 := fun h _ X hX => by
                obtain rfl : wz.heap.size = X := by simpa using hX
                obtain ⟨A, n, c, e, hl, hsl, hfr⟩ := φ.s5 (by simpa using h)
                subst e
                exact SOff.of_sl hsl Pce.enc_len (by decide),
            s14 := fun h0 => φ.s14 (by simpa using h0),
            e10_11 := fun h _ X Y hX hY => by
                obtain rfl : wz.heap.size = Y := by simpa using hY
                obtain ⟨X', y1, y2, y3⟩ := φ.x10 (by simpa using h)
                rw [hX] at y1
                obtain rfl : X = X' := by simpa using y1
                omega }, rfl⟩
        refine hG ?_
        clear hK φ hG
        revert hk
        go_simp
        first | done | exact fun h => h
      case q12 =>
        rintro L vs w' K ⟨u67, u68, u69, u70, u71, u72, u66, u73, u74, u75, u11, u12, u13, wz, rfl, φ, rfl⟩ hL hpre hcl hK G hG
        simp [Region.binds, closedFrom] at hpre hcl
        obtain ⟨A, n, c, rfl, hl, hsl, hfr⟩ := φ.s5 (by simp [hpre])
        obtain rfl : u73 = .agg #[.int .i64 s'.next, .slice A n c] := φ.s7 (by simp [hpre])
        obtain ⟨X, rfl, x2, x3⟩ := φ.x10 (by simp [hpre])
        have hz := φ.z10 (by simp [hpre]) hL X rfl
        obtain ⟨yy0, yy1, zz0, zz1⟩ := cells2 hz
        have dd0 := φ.d10_0 (by simp [hpre]) (by simp [hpre]) X rfl
        have hk := hK [u67, u68, u69, u70, u71, (.tuple #[.agg #[.int .i64 s'.next, .slice A n c], .agg #[.int .i64 p.num, .int .u32 p.val], .int .i64 k]), u66, (.agg #[.int .i64 s'.next, .slice A n c]), u74, u75, (.pointer (some ⟨X, 0, none⟩)), u12, u13] ((wz.setCell ⟨X, 0, none⟩ (.int .i64 s'.next)).setCell ⟨X, 1, none⟩ (.slice A n c)) ⟨_, _, _, _, _, _, _, _, _, _, _, _, _, ((wz.setCell ⟨X, 0, none⟩ (.int .i64 s'.next)).setCell ⟨X, 1, none⟩ (.slice A n c)), rfl,
          { b := ((φ.b.setCell (p := ⟨X, 0, none⟩) x2 _).setCell (p := ⟨X, 1, none⟩) x2 _),
            s0 := fun h0 => φ.s0 (by simpa using h0),
            s1 := fun h0 => φ.s1 (by simpa using h0),
            s2 := fun h0 => φ.s2 (by simpa using h0),
            s3 := fun h0 => φ.s3 (by simpa using h0),
            s4 := fun h0 => φ.s4 (by simpa using h0),
            s5 := fun _ => ⟨A, n, c, rfl, hl, SOff.set2 dd0 hsl, hfr⟩,
            s6 := fun h0 => φ.s6 (by simpa using h0),
            s7 := fun h0 => φ.s7 (by simpa using h0),
            s8 := fun h0 => φ.s8 (by simpa using h0),
            s9 := fun h0 => φ.s9 (by simpa using h0),
            x10 := fun _ => ⟨X, rfl, x2, by simpa using x3⟩,
            z10 := fun _ h => by simp at h,
            y10 := fun _ X' hX => by
                obtain rfl : X = X' := by simpa using hX
                exact block_set2 hz,
            d10_0 := fun h0 h1 => φ.d10_0 (by simpa using h0) (by simpa using h1),
            x11 := fun h => by
                obtain ⟨Y, y1, y2, y3⟩ := φ.x11 (by simpa using h)
                exact ⟨Y, y1, y2, by simpa using y3⟩,
            z11 := fun h h2 Y hY => (block_far2 (φ.e10_11 (by simp [hpre]) (by simp [hpre]) X Y rfl hY)).trans (φ.z11 (by simpa using h) (by simpa using h2) Y hY),
            y11 := fun h Y hY => (block_far2 (φ.e10_11 (by simp [hpre]) (by simp [hpre]) X Y rfl hY)).trans (φ.y11 (by simpa using h) Y hY),
            d11_0 := fun h0 h1 => φ.d11_0 (by simpa using h0) (by simpa using h1),
            s14 := fun h0 => φ.s14 (by simpa using h0),
            e10_11 := fun h0 h1 => φ.e10_11 (by simpa using h0) (by simpa using h1) }, rfl⟩
        refine hG ?_
        clear hK φ hG
        revert hk
        go_simp
        first | done | exact fun h => h
      case q13 =>
        rintro L vs w' K ⟨u67, u68, u69, u70, u71, u72, u66, u73, u74, u75, u11, u12, u13, wz, rfl, φ, rfl⟩ hL hpre hcl hK G hG
        simp [Region.binds, closedFrom] at hpre hcl
        obtain ⟨A, n, c, rfl, hl, hsl, hfr⟩ := φ.s5 (by simp [hpre])
        obtain rfl : u74 = .agg #[.int .i64 p.num, .int .u32 p.val] := φ.s8 (by simp [hpre])
        obtain ⟨X, rfl, x2, x3⟩ := φ.x11 (by simp [hpre])
        have hz := φ.z11 (by simp [hpre]) hL X rfl
        obtain ⟨yy0, yy1, zz0, zz1⟩ := cells2 hz
        have dd0 := φ.d11_0 (by simp [hpre]) (by simp [hpre]) X rfl
        have hk := hK [u67, u68, u69, u70, u71, (.tuple #[.agg #[.int .i64 s'.next, .slice A n c], .agg #[.int .i64 p.num, .int .u32 p.val], .int .i64 k]), u66, u73, (.agg #[.int .i64 p.num, .int .u32 p.val]), u75, u11, (.pointer (some ⟨X, 0, none⟩)), u13] ((wz.setCell ⟨X, 0, none⟩ (.int .i64 p.num)).setCell ⟨X, 1, none⟩ (.int .u32 p.val)) ⟨_, _, _, _, _, _, _, _, _, _, _, _, _, ((wz.setCell ⟨X, 0, none⟩ (.int .i64 p.num)).setCell ⟨X, 1, none⟩ (.int .u32 p.val)), rfl,
          { b := ((φ.b.setCell (p := ⟨X, 0, none⟩) x2 _).setCell (p := ⟨X, 1, none⟩) x2 _),
            s0 := fun h0 => φ.s0 (by simpa using h0),
            s1 := fun h0 => φ.s1 (by simpa using h0),
            s2 := fun h0 => φ.s2 (by simpa using h0),
            s3 := fun h0 => φ.s3 (by simpa using h0),
            s4 := fun h0 => φ.s4 (by simpa using h0),
            s5 := fun _ => ⟨A, n, c, rfl, hl, SOff.set2 dd0 hsl, hfr⟩,
            s6 := fun h0 => φ.s6 (by simpa using h0),
            s7 := fun h0 => φ.s7 (by simpa using h0),
            s8 := fun h0 => φ.s8 (by simpa using h0),
            s9 := fun h0 => φ.s9 (by simpa using h0),
            x10 := fun h => by
                obtain ⟨Y, y1, y2, y3⟩ := φ.x10 (by simpa using h)
                exact ⟨Y, y1, y2, by simpa using y3⟩,
            z10 := fun h h2 Y hY => (block_far2 (Ne.symm (φ.e10_11 (by simp [hpre]) (by simp [hpre]) Y X hY rfl))).trans (φ.z10 (by simpa using h) (by simpa using h2) Y hY),
            y10 := fun h Y hY => (block_far2 (Ne.symm (φ.e10_11 (by simp [hpre]) (by simp [hpre]) Y X hY rfl))).trans (φ.y10 (by simpa using h) Y hY),
            d10_0 := fun h0 h1 => φ.d10_0 (by simpa using h0) (by simpa using h1),
            x11 := fun _ => ⟨X, rfl, x2, by simpa using x3⟩,
            z11 := fun _ h => by simp at h,
            y11 := fun _ X' hX => by
                obtain rfl : X = X' := by simpa using hX
                exact block_set2 hz,
            d11_0 := fun h0 h1 => φ.d11_0 (by simpa using h0) (by simpa using h1),
            s14 := fun h0 => φ.s14 (by simpa using h0),
            e10_11 := fun h0 h1 => φ.e10_11 (by simpa using h0) (by simpa using h1) }, rfl⟩
        refine hG ?_
        clear hK φ hG
        revert hk
        go_simp
        first | done | exact fun h => h
      case q14 =>
        rintro L vs w' K ⟨u67, u68, u69, u70, u71, u72, u66, u73, u74, u75, u11, u12, u13, wz, rfl, φ, rfl⟩ hL hpre hcl hK G hG
        simp [Region.binds, closedFrom] at hpre hcl
        obtain ⟨A, n, c, rfl, hl, hsl, hfr⟩ := φ.s5 (by simp [hpre])
        obtain rfl : u75 = .int .i64 k := φ.s9 (by simp [hpre])
        have hk := hK [u67, u68, u69, u70, u71, (.tuple #[.agg #[.int .i64 s'.next, .slice A n c], .agg #[.int .i64 p.num, .int .u32 p.val], .int .i64 k]), u66, u73, u74, (.int .i64 k), u11, u12, (.int .i64 k)] wz ⟨_, _, _, _, _, _, _, _, _, _, _, _, _, wz, rfl,
          { b := φ.b,
            s0 := fun h0 => φ.s0 (by simpa using h0),
            s1 := fun h0 => φ.s1 (by simpa using h0),
            s2 := fun h0 => φ.s2 (by simpa using h0),
            s3 := fun h0 => φ.s3 (by simpa using h0),
            s4 := fun h0 => φ.s4 (by simpa using h0),
            s5 := fun h0 => φ.s5 (by simpa using h0),
            s6 := fun h0 => φ.s6 (by simpa using h0),
            s7 := fun h0 => φ.s7 (by simpa using h0),
            s8 := fun h0 => φ.s8 (by simpa using h0),
            s9 := fun h0 => φ.s9 (by simpa using h0),
            x10 := fun h0 => φ.x10 (by simpa using h0),
            z10 := fun h0 h1 => φ.z10 (by simpa using h0) (by simpa using h1),
            y10 := fun h0 => φ.y10 (by simpa using h0),
            d10_0 := fun h0 h1 => φ.d10_0 (by simpa using h0) (by simpa using h1),
            x11 := fun h0 => φ.x11 (by simpa using h0),
            z11 := fun h0 h1 => φ.z11 (by simpa using h0) (by simpa using h1),
            y11 := fun h0 => φ.y11 (by simpa using h0),
            d11_0 := fun h0 h1 => φ.d11_0 (by simpa using h0) (by simpa using h1),
            s14 := fun _ => rfl,
            e10_11 := fun h0 h1 => φ.e10_11 (by simpa using h0) (by simpa using h1) }, rfl⟩
        refine hG ?_
        clear hK φ hG
        revert hk
        go_simp
        first | done | exact fun h => h
      case hend =>
        rintro vs w' ⟨u67, u68, u69, u70, u71, u72, u66, u73, u74, u75, u11, u12, u13, wz, rfl, φ, rfl⟩ G hG
        have b9 := φ.b
        obtain ⟨A, n, c, rfl, hl, hsl, hfr⟩ := φ.s5 rfl
        obtain ⟨TX, rfl, tx1, tx2⟩ := φ.x10 rfl
        obtain ⟨PX, rfl, px1, px2⟩ := φ.x11 rfl
        obtain ⟨t0, t1, ft0, ft1⟩ := cells2 (φ.y10 rfl TX rfl)
        obtain ⟨p0, p1, fp0, fp1⟩ := cells2 (φ.y11 rfl PX rfl)
        obtain rfl : u13 = .int .i64 k := φ.s14 rfl
        have hfa : OffP (FarP SX GX (.slice TA tn tc) (.slice KA kn kc)) s'.out A := far_old L hfr
        have neX : (Value.slice TA tn tc).ownBlock ≠ some TX := fun e => by have := (L.ownT.lt _ e).2; omega
        have hsz := L.sz
        have hsz2 := b9.size
        clear φ
        replace L := L.below b9
        refine hG ?_
        clear hG cS qv HL7 HL8 b9 px1 px2
        clear s0 s1 fs0 fs1 g0 g1 g2 fg0 fg1 fg2 ltS ltG
        have s0 := L.s0
        have s1 := L.s1
        have fs0 := L.fs0
        have fs1 := L.fs1
        have g0 := L.g0
        have g1 := L.g1
        have g2 := L.g2
        have fg0 := L.fg0
        have fg1 := L.fg1
        have fg2 := L.fg2
        have ltS := L.ltS
        have ltG := L.ltG
        go_wp2_with (at_builtin; refine wpList_as ?_)
        intro _
        refine wpList_append_own_at _ rfl _ _ 25 rfl base 34 i34 _ 2 16 Try.underlying25 hi hz0 hz1 hz2 rfl (by decide) _ _ _ rfl (L.ownT.alloc _) ⟨wz.heap.size, 0, none⟩ 1 1 [.int .i64 p.num, .int .u32 p.val] rfl rfl (fun j u hj => cell_new_block wz _ 34 j u hj) (by intro u hu; simp at hu; rcases hu with rfl | rfl <;> rfl) (by unfold maxLen; omega) (by omega) (by simp; omega) ?_
        intro v' w9 ownN hgrow hnil hat
        obtain ⟨TA', tc', rfl⟩ := own_shape ownN
        have hat2 : (Value.slice TA' (tn + 1) tc').ownBlock = (Value.slice TA tn tc).ownBlock ∨ ∀ k, (Value.slice TA' (tn + 1) tc').ownBlock = some k → (wz.alloc (.cells #[.int .i64 p.num, .int .u32 p.val] 34)).heap.size ≤ k := hat.imp id (fun e k hk => by rw [e] at hk; injection hk with hk; omega)
        have hbA : Below wz.heap.size wz (wz.alloc (.cells #[.int .i64 p.num, .int .u32 p.val] 34)) := bnew
        have hslA := hsl.below hbA
        have hfa2 := far_T (TA' := TA') (tn' := tn + 1) (tc' := tc') Pce.enc_len (by decide) hslA hfa hat2
        have hsl9 := hslA.grown hgrow (fun hne a e => (hfa hne a e).2.2.1)
        obtain ⟨ct, ft⟩ := far_append hgrow TX tx2 neX
        replace t0 := (ct 0).trans t0
        replace t1 := (ct 1).trans t1
        have L2 := (L.below hbA).growT (sent' := sent ++ [p]) hgrow (by simpa [List.flatMap_append, Pce.enc] using ownN) (by simp [L.etn]) hat2
        replace L := L2
        clear L2 ownN hgrow hnil hat hat2 hbA hslA hsl ct ft hfa p0 p1 fp0 fp1 ft0 ft1
        clear s0 s1 fs0 fs1 g0 g1 g2 fg0 fg1 fg2 ltS ltG
        have s0 := L.s0
        have s1 := L.s1
        have fs0 := L.fs0
        have fs1 := L.fs1
        have g0 := L.g0
        have g1 := L.g1
        have g2 := L.g2
        have fg0 := L.fg0
        have fg1 := L.fg1
        have fg2 := L.fg2
        have ltS := L.ltS
        have ltG := L.ltG
        go_wp2_with fail
        replace L := L.setS (n' := n) (c' := c) hsl9 hl hfa2
        generalize (w9.setCell ⟨SX, 0, none⟩ (.int .i64 s'.next)).setCell ⟨SX, 1, none⟩ (.slice A n c) = w20 at *
        clear s0 s1 fs0 fs1 g0 g1 g2 fg0 fg1 fg2 ltS ltG
        have s0 := L.s0
        have s1 := L.s1
        have fs0 := L.fs0
        have fs1 := L.fs1
        have g0 := L.g0
        have g1 := L.g1
        have g2 := L.g2
        have fg0 := L.fg0
        have fg1 := L.fg1
        have fg2 := L.fg2
        have ltS := L.ltS
        have ltG := L.ltG
        have hk2 := HK2.out
        have e1 := hk2.gle
        rw [L.egm, L.etn] at e1
        have y5 : (gm : Int) ≤ (tn + 1 : Int) := by omega
        have y6 : ¬ (tn + 1 : Int) < (gm : Int) := by omega
        have cR1 := fun w1 (h : Sl 2 Pce.enc w1 A s'.out) => sRight_any A c n s' w1 h L.esn
        have cR2 := fun w1 (h : GtrIn w1 gA gB g) => gRight_any gA gB gc gd gn gm g w1 h.early L.egn
        rw [hk2.sright] at cR1
        rw [hk2.right] at cR2
        clear hk2 e1
        go_wp2_with fail
        refine (cR1 _ L.ss).mono ?_
        rintro e w21 ⟨rfl, hb21⟩
        replace L := L.below hb21
        clear hb21 cR1
        clear s0 s1 fs0 fs1 g0 g1 g2 fg0 fg1 fg2 ltS ltG
        have s0 := L.s0
        have s1 := L.s1
        have fs0 := L.fs0
        have fs1 := L.fs1
        have g0 := L.g0
        have g1 := L.g1
        have g2 := L.g2
        have fg0 := L.fg0
        have fg1 := L.fg1
        have fg2 := L.fg2
        have ltS := L.ltS
        have ltG := L.ltG
        go_wp2_with fail
        refine (cR2 _ L.gi).mono ?_
        rintro e w22 ⟨rfl, hb22⟩
        replace L := L.below hb22
        clear hb22 cR2
        clear s0 s1 fs0 fs1 g0 g1 g2 fg0 fg1 fg2 ltS ltG
        have s0 := L.s0
        have s1 := L.s1
        have fs0 := L.fs0
        have fs1 := L.fs1
        have g0 := L.g0
        have g1 := L.g1
        have g2 := L.g2
        have fg0 := L.fg0
        have fg1 := L.fg1
        have fg2 := L.fg2
        have ltS := L.ltS
        have ltG := L.ltG
        go_wp2_with fail
        obtain ⟨wo, hwo⟩ : ∃ wo : World, wo = w22 := ⟨_, rfl⟩
        subst hwo
        clear s0 s1 fs0 fs1 g0 g1 g2 fg0 fg1 fg2 ltS ltG
        go_loopg [19] gm (fun gg s19 wl => ∃ kk : Nat, kk ≤ gm ∧ gm - kk ≤ gg ∧ s19 = .int .i64 (kk : Int) ∧ Aside (Below wo.heap.size wo wl))
        case atStart => exact ⟨0, Nat.zero_le _, by omega, rfl, Below.refl _ _⟩
        case round =>
          obtain ⟨kk, hkk, hgg2, rfl, HB⟩ := hrel
          have LL := L.below HB.out
          have s0 := LL.s0
          have s1 := LL.s1
          have fs0 := LL.fs0
          have fs1 := LL.fs1
          have g0 := LL.g0
          have g1 := LL.g1
          have g2 := LL.g2
          have fg0 := LL.fg0
          have fg1 := LL.fg1
          have fg2 := LL.fg2
          have ltS := LL.ltS
          have ltG := LL.ltG
          by_cases hlt2 : kk < gm
          · have y7 : (kk : Int) < (gm : Int) := by omega
            have y8 : (kk : Int) < (tn + 1 : Int) := by omega
            have hin2 : kk < g.came.length := by rw [LL.egm]; exact hlt2
            obtain ⟨cb, co, hgB, hq2⟩ := LL.gi.came.at_ kk hin2
            obtain ⟨tb2, tj2, hTA, hq3⟩ := (Sl.of_own Pce.enc_len LL.ownT LL.etn).at_ kk (by rw [LL.etn]; omega)
            have c0 : wr.cell? ⟨cb, co + kk, none⟩ = some (.int .u32 g.came[kk]!.val) := by have := hq2 0 _ rfl; simpa using this
            have d1 : wr.cell? ⟨tb2, tj2 + kk * 2 + 1, none⟩ = some (.int .u32 (sent ++ [p])[kk]!.val) := hq3 1 _ rfl
            rw [HK2.out.val kk hin2] at c0
            generalize (sent ++ [p])[kk]!.val = x at *
            rw [hgB] at g2
            subst hTA
            have y9 : (x != x) = false := by simp
            clear hq2 hq3 hin2 LL hgB
            go_wp2_with fail
            go_quiet (fail)
            go_wp2_with fail
            go_roundg (gm - (kk + 1))
            case measure => omega
            case rel => exact ⟨kk + 1, by omega, by omega, by go_num, (show Aside _ from bdrewN HB.out _)⟩
          · have y7 : ¬ (kk : Int) < (gm : Int) := by omega
            go_wp2_with fail
            go_roundg (150 - (i + 1))
            case measure => omega
            case rel => exact ⟨i + 1, _, _, _, _, _, _, _, _, _, _, _, _, _, _, _, _, _, _, _, by omega, by omega, by omega, rfl, rfl, by go_num, by go_num, (show Aside _ from HK2.out), LL⟩

end Go.Proofs.Ytjnpdicoopgkoaa
