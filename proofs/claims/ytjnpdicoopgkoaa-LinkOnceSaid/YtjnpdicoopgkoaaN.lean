/- The walk of LinkOnce. -/
import Derived.Test.YtjnpdicoopgkoaaN2
namespace Go.Proofs.Ytjnpdicoopgkoaa
open Go.RowKit Go.Lib
set_option linter.unusedVariables false
attribute [local go_sem] Act.puts


theorem LW.start {w w0 : World} (b : Below w.heap.size w w0) : LW w w0.heap.size (w0.heap.size + 1) (w0.heap.size + 1 + 1) (((w0.alloc (.cells #[.int .i64 0, .slice none 0 0] 27)).alloc (.cells #[.int .i64 0, .slice none 0 0, .slice none 0 0] 29)).alloc (.cells #[.int .i64 0] 3)) ⟨0, []⟩ ⟨0, [], []⟩ [] [0] none 0 0 none 0 0 none 0 0 none 0 0 (some ⟨w0.heap.size + 1 + 1, 0, none⟩) 1 1 :=
  have hs := b.size
  ⟨by go_simp, by go_simp, by go_simp, by go_simp, by go_simp, by go_simp, by go_simp, by go_simp, by go_simp, by go_simp, by simp <;> omega, by simp <;> omega, by omega, by omega, by omega, by omega, by omega, by simp,
   Sl.nil _ _ _ _, rfl, ⟨Sl.nil _ _ _ _, Sl.nil _ _ _ _⟩, rfl, rfl, World.ownsRow_nil _ _ _ _, rfl,
   ⟨rfl, .inr ⟨w0.heap.size + 1 + 1, 1, #[.int .i64 0], rfl, Nat.le_refl _, by simpa using heap_alloc_new ((w0.alloc (.cells #[.int .i64 0, .slice none 0 0] 27)).alloc (.cells #[.int .i64 0, .slice none 0 0, .slice none 0 0] 29)) (.cells #[.int .i64 0] 3), by omega, by unfold maxLen; omega, rfl, rfl⟩⟩, rfl,
   (fun h => absurd rfl h), (fun h => absurd rfl h), (fun h => absurd rfl h), ((b.alloc hs _).alloc (by simp; omega) _).alloc (by simp; omega) _⟩

set_option maxHeartbeats 40000000 in
set_option maxRecDepth 100000 in
theorem once_walk (WA HA : Option Addr) (wn wc hn hc : Nat) (words : List Wrd) (which : List Int) (w : World) (hW : Sl 1 Wrd.enc w WA words) (hH : Sl 1 encH w HA which) (hwn : words.length = wn) (hhn : which.length = hn) (hq : ∀ q ∈ which, 0 ≤ q ∧ q ≤ 65535) :
    Calls Try.prog 3 #[.slice WA wn wc, .slice HA hn hc] w fun e w' => e = .returned (.bool true) ∧ Below w.heap.size w w' := by
  have hbig1 := hW.big
  have hbig2 := hH.big
  rw [hwn] at hbig1
  rw [hhn] at hbig2
  have HW := Lib.hid hW
  have HH := Lib.hid hH
  have HWN := Lib.hid hwn
  have HHN := Lib.hid hhn
  have HQ := Lib.hid hq
  clear hW hH hwn hhn hq
  obtain ⟨i34, hi, hz0, hz1, hz2⟩ := info_parts info34
  obtain ⟨i3, ki, kz0, kz1, kz2⟩ := info_parts info3
  go_enter Try.func3, Try.ntmps3
  go_wp2_with fail
  refine (awake_any _).mono ?_
  rintro e w0 ⟨rfl, b⟩
  go_wp2_with fail
  have L0 := LW.start b
  clear b
  generalize (((w0.alloc (.cells #[.int .i64 0, .slice none 0 0] 27)).alloc (.cells #[.int .i64 0, .slice none 0 0, .slice none 0 0] 29)).alloc (.cells #[.int .i64 0] 3)) = W at *
  generalize hbase : w0.heap.size + 1 + 1 = base at *
  generalize hGX : w0.heap.size + 1 = GX at *
  generalize w0.heap.size = SX at *
  clear hbase hGX
  go_loopg [7, 8, 9, 10] 151 (fun gg s7 s8 s9 s10 wl => ∃ (i : Nat) (s : Snd) (g : Gtr) (sent : List Pce) (acks : List Int) (sA : Option Addr) (sn sc : Nat) (gA : Option Addr) (gn gc : Nat) (gB : Option Addr) (gm gd : Nat) (TA : Option Addr) (tn tc : Nat) (KA : Option Addr) (kn kc : Nat),
    i ≤ hn ∧ i ≤ 150 ∧ 150 - i ≤ gg ∧ s7 = .slice TA tn tc ∧ s8 = .slice KA kn kc ∧ s9 = .int .i64 (tn : Int) ∧ s10 = .int .i64 (i : Int) ∧ Aside (LK s g sent acks i) ∧ LW w SX GX base wl s g sent acks sA sn sc gA gn gc gB gm gd TA tn tc KA kn kc)
  case atStart => exact ⟨0, _, _, _, _, _, _, _, _, _, _, _, _, _, _, _, _, _, _, _, Nat.zero_le _, by omega, by omega, rfl, rfl, rfl, rfl, LK.start, L0⟩
  case round =>
    clear L0
    obtain ⟨i, s, g, sent, acks, sA, sn, sc, gA, gn, gc, gB, gm, gd, TA, tn, tc, KA, kn, kc, hi0, hi150, hgg, rfl, rfl, rfl, rfl, HK, L⟩ := hrel
    by_cases hlt : i < hn ∧ i < 150
    · obtain ⟨hltn, hlt150⟩ := hlt
      have z1 : (i : Int) < (hn : Int) := by omega
      have z2 : (i : Int) < 150 := by omega
      have hin : i < which.length := by rw [HHN.out]; exact hltn
      obtain ⟨hb, ho, rfl, hq0⟩ := (HH.out.below L.b).at_ i hin
      have cq : wr.cell? ⟨hb, ho + i, none⟩ = some (.int .u16 which[i]!) := by have := hq0 0 _ rfl; simpa using this
      obtain ⟨q0, q1⟩ := HQ.out which[i]! (by rw [getElem!_pos which i hin]; exact List.getElem_mem hin)
      generalize which[i]! = q at *
      clear hq0 hin
      rcases (show q % 3 = 0 ∨ q % 3 = 1 ∨ q % 3 = 2 by omega) with hk3 | hk3 | hk3
      · exact once_k0 hbig1 hbig2 HW HWN hgg HK L hltn hlt150 cq q0 q1 hk3 (by assumption) (by assumption)
      · exact once_k1 hbig1 hbig2 HW HWN hgg HK L hltn hlt150 cq q0 q1 hk3 (by assumption) (by assumption)
      · exact once_k2 hbig1 hbig2 HW HWN hgg HK L hltn hlt150 cq q0 q1 hk3 (by assumption) (by assumption)
    · have hk := HK.out
      have l1 := hk.len
      have l2 := hk.alen
      have l3 := hk.apos
      have l4 := hk.gle
      have l5 := hk.o16
      have l6 := hk.gnextle
      have l7 := hk.next
      have l8 := hk.gnext
      rw [L.etn] at l1 l4 l7
      rw [L.ekn] at l2 l3
      rw [L.egm] at l4 l8
      rw [L.esn] at l5
      have hgr := (gRight_iff.1 hk.right).1
      have hgl : gn ≤ 16 := by rw [← L.egn]; exact (gRight_iff.1 hk.right).2.2.1
      have HL7 := Lib.hid l7
      have HL8 := Lib.hid l8
      clear l7 l8
      have hz : (i : Int) < (hn : Int) → ¬ (i : Int) < 150 := fun h1 h2 => hlt ⟨by omega, by omega⟩
      have cAg := fun w1 (h : Sl 2 Pce.enc w1 sA s.out) => again_any sA sc sn s w1 h L.esn (by omega)
      rw [hk.again] at cAg
      have HF0 := Lib.hid hk.final
      have HTL := Lib.hid L.etn
      clear hk HK HL7 HL8 hlt
      have s0 := L.s0
      have s1 := L.s1
      have fs0 := L.fs0
      have fs1 := L.fs1
      have g0 := L.g0
      have g1 := L.g1
      have g2 := L.g2
      have fg0 := L.fg0
      have fg1 := L.fg1
      have fg2 := L.fg2
      have ltS := L.ltS
      have ltG := L.ltG
      by_cases hltn : (i : Int) < (hn : Int)
      case' pos =>
        have z2 := hz hltn
        clear hz
      case' neg =>
        clear hz
      all_goals (
        go_wp2_with fail
        refine (cAg _ L.ss).mono ?_
        rintro e w30 ⟨OA, on, oc, rfl, hon, hso, hb30, hof⟩
        have hfo : OffP (FarP SX GX (.slice TA tn tc) (.slice KA kn kc)) s.out OA := far_old L hof
        replace L := L.below hb30
        clear hb30 hof cAg
        have HON := Lib.hid hon
        have hosz : on ≤ 16 := by have := L.esn; omega
        clear hon
        clear s0 s1 fs0 fs1 g0 g1 g2 fg0 fg1 fg2 ltS ltG
        have s0 := L.s0
        have s1 := L.s1
        have fs0 := L.fs0
        have fs1 := L.fs1
        have g0 := L.g0
        have g1 := L.g1
        have g2 := L.g2
        have fg0 := L.fg0
        have fg1 := L.fg1
        have fg2 := L.fg2
        have ltS := L.ltS
        have ltG := L.ltG
        go_wp2_with fail
        go_loopg [21] on (fun gg s21 wl => ∃ (kk : Nat) (g : Gtr) (gA : Option Addr) (gn gc : Nat) (gB : Option Addr) (gm gd : Nat), kk ≤ on ∧ on - kk ≤ gg ∧ s21 = .int .i64 (kk : Int) ∧ Aside (LF g sent s.out kk) ∧ LW w SX GX base wl s g sent acks sA sn sc gA gn gc gB gm gd TA tn tc KA kn kc ∧ Sl 2 Pce.enc wl OA s.out)
        case atStart => exact ⟨0, g, gA, gn, gc, gB, gm, gd, Nat.zero_le _, by omega, rfl, HF0.out, L, hso⟩
        case round =>
          clear L hso HF0
          clear s0 s1 fs0 fs1 g0 g1 g2 fg0 fg1 fg2 ltS ltG
          obtain ⟨kk, g, gA, gn, gc, gB, gm, gd, hkk, hgg2, rfl, HF, L, hso⟩ := hrel
          have l9 := HF.out.gle
          rw [L.egm, L.etn] at l9
          have l10 := HF.out.gnext
          rw [L.egm] at l10
          have hgl2 : gn ≤ 16 := by rw [← L.egn]; exact (gRight_iff.1 HF.out.right).2.2.1
          by_cases hlt3 : kk < on
          · have y1 : (kk : Int) < (on : Int) := by omega
            have hin : kk < s.out.length := by rw [HON.out]; exact hlt3
            obtain ⟨g', hR, hF2⟩ := HF.out.step hin
            obtain ⟨ob, oj, hOA, hq0⟩ := hso.at_ kk hin
            subst hOA
            have pq0 : wr.drew.cell? ⟨ob, oj + kk * 2, none⟩ = some (.int .i64 s.out[kk]!.num) := hq0 0 _ rfl
            have pq1 : wr.drew.cell? ⟨ob, oj + kk * 2 + 1, none⟩ = some (.int .u32 s.out[kk]!.val) := hq0 1 _ rfl
            have hpn : s.out[kk]!.num ≤ 9223372036854775807 := HF.out.small hin
            generalize s.out[kk]! = p at *
            have cG := fun wz (hb : Below wr.drew.heap.size wr.drew wz) => get_fresh (get_any gA gB gc gd gn gm g p wz ((L.below (Below.refl _ _).drew).gi.early.below hb) ((L.below (Below.refl _ _).drew).gi.came.below hb) L.egn L.egm (by omega) (by omega) hpn) hR
            have HF2 := Lib.hid hF2
            clear hF2 hR hin hq0 hpn HF
            go_wp2_with fail
            replace L := L.below (Below.refl _ _).drew
            have hso2 := hso.below (Below.refl _ _).drew
            have s0 := L.s0
            have s1 := L.s1
            have fs0 := L.fs0
            have fs1 := L.fs1
            have g0 := L.g0
            have g1 := L.g1
            have g2 := L.g2
            have fg0 := L.fg0
            have fg1 := L.fg1
            have fg2 := L.fg2
            have ltS := L.ltS
            have ltG := L.ltG
            refine wp_region_rg (by kernel_rfl) (by kernel_rfl) [178, 179, 180, 181, 182, 183, 177, 184, 185, 186] (OnceFPhi wr.drew GX g gA gn gc gB gm gd ob oj on oc kk p g') ?h0 ⟨?q0, ?q1, ?q2, ?q3, ?q4, ?q5, ?q6, ?q7, ?q8, ?q9, ?q10, trivial⟩ ?hend
            case h0 => exact ⟨_, _, _, _, _, _, _, _, _, _, _, rfl, ⟨trivial, (fun _ => Below.refl _ _), (fun h => by cases h), (fun h => by cases h), (fun h => by cases h), (fun h => by cases h), (fun h => by cases h), (fun h => by cases h), (fun h => by cases h), (fun h => by cases h), (fun h => by cases h)⟩, rfl⟩
            case q0 =>
              rintro L vs w' K ⟨u178, u179, u180, u181, u182, u183, u177, u184, u185, u186, wz, rfl, φ, rfl⟩ hL hpre hcl hK G hG
              simp [Region.binds, closedFrom] at hpre hcl
              have L10 : L 10 = false := by
                cases h : L 10 with
                | false => rfl
                | true => simp [h, hL] at hcl
              have b := φ.bb L10
              have ce0 := (b.cell (p := ⟨GX, 0, none⟩) ltG).trans g0
              have ce1 := (b.cell (p := ⟨GX, 1, none⟩) ltG).trans g1
              have ce2 := (b.cell (p := ⟨GX, 2, none⟩) ltG).trans g2
              have hk := hK [(.agg #[.int .i64 g.next, .slice gA gn gc, .slice gB gm gd]), u179, u180, u181, u182, u183, u177, u184, u185, u186] wz ⟨_, _, _, _, _, _, _, _, _, _, wz, rfl,
                { b := φ.b,
                  bb := fun h0 => φ.bb (by simpa using h0),
                  s0 := fun _ => rfl,
                  s1 := fun h0 => φ.s1 (by simpa using h0),
                  s2 := fun h0 => φ.s2 (by simpa using h0),
                  s3 := fun h0 => φ.s3 (by simpa using h0),
                  s4 := fun h0 => φ.s4 (by simpa using h0),
                  s5 := fun h => by
                        obtain ⟨A, n, c, B, m, d, e, hl, hl2, hsl, hfr, hfr2⟩ := φ.s5 (by simpa using h)
                        exact ⟨A, n, c, B, m, d, e, hl, hl2, fun h2 => hsl (by simpa using h2), hfr, hfr2⟩,
                  s6 := fun h0 => φ.s6 (by simpa using h0),
                  s7 := fun h0 => φ.s7 (by simpa using h0),
                  st := fun h0 => φ.st (by simpa using h0) }, rfl⟩
              refine hG ?_
              clear hK φ hG
              revert hk
              go_simp
              first | done | exact fun h => h
            case q1 =>
              rintro L vs w' K ⟨u178, u179, u180, u181, u182, u183, u177, u184, u185, u186, wz, rfl, φ, rfl⟩ hL hpre hcl hK G hG
              simp [Region.binds, closedFrom] at hpre hcl
              have hk := hK [u178, (.slice (some ⟨ob, oj, none⟩) on oc), u180, u181, u182, u183, u177, u184, u185, u186] wz ⟨_, _, _, _, _, _, _, _, _, _, wz, rfl,
                { b := φ.b,
                  bb := fun h0 => φ.bb (by simpa using h0),
                  s0 := fun h0 => φ.s0 (by simpa using h0),
                  s1 := fun _ => rfl,
                  s2 := fun h0 => φ.s2 (by simpa using h0),
                  s3 := fun h0 => φ.s3 (by simpa using h0),
                  s4 := fun h0 => φ.s4 (by simpa using h0),
                  s5 := fun h => by
                        obtain ⟨A, n, c, B, m, d, e, hl, hl2, hsl, hfr, hfr2⟩ := φ.s5 (by simpa using h)
                        exact ⟨A, n, c, B, m, d, e, hl, hl2, fun h2 => hsl (by simpa using h2), hfr, hfr2⟩,
                  s6 := fun h0 => φ.s6 (by simpa using h0),
                  s7 := fun h0 => φ.s7 (by simpa using h0),
                  st := fun h0 => φ.st (by simpa using h0) }, rfl⟩
              refine hG ?_
              clear hK φ hG
              revert hk
              go_simp
              first | done | exact fun h => h
            case q2 =>
              rintro L vs w' K ⟨u178, u179, u180, u181, u182, u183, u177, u184, u185, u186, wz, rfl, φ, rfl⟩ hL hpre hcl hK G hG
              simp [Region.binds, closedFrom] at hpre hcl
              have hk := hK [u178, u179, (.int .i64 (kk : Int)), u181, u182, u183, u177, u184, u185, u186] wz ⟨_, _, _, _, _, _, _, _, _, _, wz, rfl,
                { b := φ.b,
                  bb := fun h0 => φ.bb (by simpa using h0),
                  s0 := fun h0 => φ.s0 (by simpa using h0),
                  s1 := fun h0 => φ.s1 (by simpa using h0),
                  s2 := fun _ => rfl,
                  s3 := fun h0 => φ.s3 (by simpa using h0),
                  s4 := fun h0 => φ.s4 (by simpa using h0),
                  s5 := fun h => by
                        obtain ⟨A, n, c, B, m, d, e, hl, hl2, hsl, hfr, hfr2⟩ := φ.s5 (by simpa using h)
                        exact ⟨A, n, c, B, m, d, e, hl, hl2, fun h2 => hsl (by simpa using h2), hfr, hfr2⟩,
                  s6 := fun h0 => φ.s6 (by simpa using h0),
                  s7 := fun h0 => φ.s7 (by simpa using h0),
                  st := fun h0 => φ.st (by simpa using h0) }, rfl⟩
              refine hG ?_
              clear hK φ hG
              revert hk
              go_simp
              first | done | exact fun h => h
            case q3 =>
              rintro L vs w' K ⟨u178, u179, u180, u181, u182, u183, u177, u184, u185, u186, wz, rfl, φ, rfl⟩ hL hpre hcl hK G hG
              simp [Region.binds, closedFrom] at hpre hcl
              obtain rfl := φ.s1 (by simp [hpre])
              obtain rfl := φ.s2 (by simp [hpre])
              have hk := hK [u178, (.slice (some ⟨ob, oj, none⟩) on oc), (.int .i64 (kk : Int)), (.pointer (some ⟨ob, oj + kk * 2, none⟩)), u182, u183, u177, u184, u185, u186] wz ⟨_, _, _, _, _, _, _, _, _, _, wz, rfl,
                { b := φ.b,
                  bb := fun h0 => φ.bb (by simpa using h0),
                  s0 := fun h0 => φ.s0 (by simpa using h0),
                  s1 := fun h0 => φ.s1 (by simpa using h0),
                  s2 := fun h0 => φ.s2 (by simpa using h0),
                  s3 := fun _ => rfl,
                  s4 := fun h0 => φ.s4 (by simpa using h0),
                  s5 := fun h => by
                        obtain ⟨A, n, c, B, m, d, e, hl, hl2, hsl, hfr, hfr2⟩ := φ.s5 (by simpa using h)
                        exact ⟨A, n, c, B, m, d, e, hl, hl2, fun h2 => hsl (by simpa using h2), hfr, hfr2⟩,
                  s6 := fun h0 => φ.s6 (by simpa using h0),
                  s7 := fun h0 => φ.s7 (by simpa using h0),
                  st := fun h0 => φ.st (by simpa using h0) }, rfl⟩
              refine hG ?_
              clear hK φ hG
              revert hk
              go_simp
              first | done | exact fun h => h
            case q4 =>
              rintro L vs w' K ⟨u178, u179, u180, u181, u182, u183, u177, u184, u185, u186, wz, rfl, φ, rfl⟩ hL hpre hcl hK G hG
              simp [Region.binds, closedFrom] at hpre hcl
              have L10 : L 10 = false := by
                cases h : L 10 with
                | false => rfl
                | true => simp [h, hL] at hcl
              have b := φ.bb L10
              obtain rfl := φ.s3 (by simp [hpre])
              have cp0 := (b.cell (p := ⟨ob, oj + kk * 2, none⟩) (World.block_lt_of_cell? _ _ pq0)).trans pq0
              have cp1 := (b.cell (p := ⟨ob, oj + kk * 2 + 1, none⟩) (World.block_lt_of_cell? _ _ pq1)).trans pq1
              have hk := hK [u178, u179, u180, (.pointer (some ⟨ob, oj + kk * 2, none⟩)), (.agg #[.int .i64 p.num, .int .u32 p.val]), u183, u177, u184, u185, u186] wz ⟨_, _, _, _, _, _, _, _, _, _, wz, rfl,
                { b := φ.b,
                  bb := fun h0 => φ.bb (by simpa using h0),
                  s0 := fun h0 => φ.s0 (by simpa using h0),
                  s1 := fun h0 => φ.s1 (by simpa using h0),
                  s2 := fun h0 => φ.s2 (by simpa using h0),
                  s3 := fun h0 => φ.s3 (by simpa using h0),
                  s4 := fun _ => rfl,
                  s5 := fun h => by
                        obtain ⟨A, n, c, B, m, d, e, hl, hl2, hsl, hfr, hfr2⟩ := φ.s5 (by simpa using h)
                        exact ⟨A, n, c, B, m, d, e, hl, hl2, fun h2 => hsl (by simpa using h2), hfr, hfr2⟩,
                  s6 := fun h0 => φ.s6 (by simpa using h0),
                  s7 := fun h0 => φ.s7 (by simpa using h0),
                  st := fun h0 => φ.st (by simpa using h0) }, rfl⟩
              refine hG ?_
              clear hK φ hG
              revert hk
              go_simp
              first | done | exact fun h => h
            case q5 =>
              rintro L vs w' K ⟨u178, u179, u180, u181, u182, u183, u177, u184, u185, u186, wz, rfl, φ, rfl⟩ hL hpre hcl hK G hG
              simp [Region.binds, closedFrom] at hpre hcl
              have L10 : L 10 = false := by
                cases h : L 10 with
                | false => rfl
                | true => simp [h, hL] at hcl
              have b := φ.bb L10
              have L6 : L 6 = false := by
                cases h : L 6 with
                | false => rfl
                | true => simp [h, hL] at hcl
              have L7 : L 7 = false := by
                cases h : L 7 with
                | false => rfl
                | true => simp [h, hL, L6] at hcl
              obtain rfl := φ.s0 (by simp [hpre])
              obtain rfl := φ.s4 (by simp [hpre])
              refine hG (step_call wz rfl 7 #[.tmp 178, .tmp 182] #[29, 34] rfl #[.agg #[.int .i64 g.next, .slice gA gn gc, .slice gB gm gd], .agg #[.int .i64 p.num, .int .u32 p.val]] (by simp [Act.eval, Act.puts, Act.put]) (enters_of Try.func7 (by kernel_rfl) rfl) (cG wz b) ?_)
              rintro e w9 ⟨A, n, c, B, m, d, rfl, hl, hl2, hsl, hsl2, hfr, hfr2, hb9⟩
              refine ⟨_, rfl, ?_⟩
              have hk := hK [(.agg #[.int .i64 g.next, .slice gA gn gc, .slice gB gm gd]), u179, u180, u181, (.agg #[.int .i64 p.num, .int .u32 p.val]), (.tuple #[.agg #[.int .i64 g'.next, .slice A n c, .slice B m d], .int .i64 g'.next, .int .i64 0]), u177, u184, u185, u186] w9 ⟨_, _, _, _, _, _, _, _, _, _, w9, rfl,
                { b := trivial,
                  bb := fun _ => b.trans (hb9.mono b.size),
                  s0 := fun h0 => φ.s0 (by simpa using h0),
                  s1 := fun h0 => φ.s1 (by simpa using h0),
                  s2 := fun h0 => φ.s2 (by simpa using h0),
                  s3 := fun h0 => φ.s3 (by simpa using h0),
                  s4 := fun h0 => φ.s4 (by simpa using h0),
                  s5 := fun _ => ⟨A, n, c, B, m, d, rfl, hl, hl2, fun _ => ⟨hsl, hsl2⟩, fun a e => Nat.le_trans b.size (hfr a e), fun a e => Nat.le_trans b.size (hfr2 a e)⟩,
                  s6 := fun h => by simp [L6] at h,
                  s7 := fun h => by simp [L7] at h,
                  st := fun h => by simp [L10] at h }, rfl⟩
              clear hK φ hG
              revert hk
              go_simp
              first | done | exact fun h => h
            case q6 =>
              rintro L vs w' K ⟨u178, u179, u180, u181, u182, u183, u177, u184, u185, u186, wz, rfl, φ, rfl⟩ hL hpre hcl hK G hG
              simp [Region.binds, closedFrom] at hpre hcl
              obtain ⟨A, n, c, B, m, d, rfl, hl, hl2, hsl, hfr, hfr2⟩ := φ.s5 (by simp [hpre])
              have hk := hK [u178, u179, u180, u181, u182, (.tuple #[.agg #[.int .i64 g'.next, .slice A n c, .slice B m d], .int .i64 g'.next, .int .i64 0]), (.tuple #[.agg #[.int .i64 g'.next, .slice A n c, .slice B m d], .int .i64 g'.next, .int .i64 0]), u184, u185, u186] wz ⟨_, _, _, _, _, _, _, _, _, _, wz, rfl,
                { b := φ.b,
                  bb := fun h0 => φ.bb (by simpa using h0),
                  s0 := fun h0 => φ.s0 (by simpa using h0),
                  s1 := fun h0 => φ.s1 (by simpa using h0),
                  s2 := fun h0 => φ.s2 (by simpa using h0),
                  s3 := fun h0 => φ.s3 (by simpa using h0),
                  s4 := fun h0 => φ.s4 (by simpa using h0),
                  s5 := fun _ => ⟨A, n, c, B, m, d, rfl, hl, hl2, fun h2 => hsl (by simpa using h2), hfr, hfr2⟩,
                  s6 := fun _ => rfl,
                  s7 := fun h0 => φ.s7 (by simpa using h0),
                  st := fun h0 => φ.st (by simpa using h0) }, rfl⟩
              refine hG ?_
              clear hK φ hG
              revert hk
              go_simp
              first | done | exact fun h => h
            case q7 =>
              rintro L vs w' K ⟨u178, u179, u180, u181, u182, u183, u177, u184, u185, u186, wz, rfl, φ, rfl⟩ hL hpre hcl hK G hG
              simp [Region.binds, closedFrom] at hpre hcl
              obtain ⟨A, n, c, B, m, d, rfl, hl, hl2, hsl, hfr, hfr2⟩ := φ.s5 (by simp [hpre, hcl])
              obtain rfl := φ.s6 (by simp [hpre])
              have hk := hK [u178, u179, u180, u181, u182, (.tuple #[.agg #[.int .i64 g'.next, .slice A n c, .slice B m d], .int .i64 g'.next, .int .i64 0]), (.tuple #[.agg #[.int .i64 g'.next, .slice A n c, .slice B m d], .int .i64 g'.next, .int .i64 0]), (.agg #[.int .i64 g'.next, .slice A n c, .slice B m d]), u185, u186] wz ⟨_, _, _, _, _, _, _, _, _, _, wz, rfl,
                { b := φ.b,
                  bb := fun h0 => φ.bb (by simpa using h0),
                  s0 := fun h0 => φ.s0 (by simpa using h0),
                  s1 := fun h0 => φ.s1 (by simpa using h0),
                  s2 := fun h0 => φ.s2 (by simpa using h0),
                  s3 := fun h0 => φ.s3 (by simpa using h0),
                  s4 := fun h0 => φ.s4 (by simpa using h0),
                  s5 := fun _ => ⟨A, n, c, B, m, d, rfl, hl, hl2, fun h2 => hsl (by simpa using h2), hfr, hfr2⟩,
                  s6 := fun h0 => φ.s6 (by simpa using h0),
                  s7 := fun _ => rfl,
                  st := fun h0 => φ.st (by simpa using h0) }, rfl⟩
              refine hG ?_
              clear hK φ hG
              revert hk
              go_simp
              first | done | exact fun h => h
            case q8 =>
              rintro L vs w' K ⟨u178, u179, u180, u181, u182, u183, u177, u184, u185, u186, wz, rfl, φ, rfl⟩ hL hpre hcl hK G hG
              simp [Region.binds, closedFrom] at hpre hcl
              obtain ⟨A, n, c, B, m, d, rfl, hl, hl2, hsl, hfr, hfr2⟩ := φ.s5 (by simp [hpre, hcl])
              obtain rfl := φ.s6 (by simp [hpre])
              have hk := hK [u178, u179, u180, u181, u182, (.tuple #[.agg #[.int .i64 g'.next, .slice A n c, .slice B m d], .int .i64 g'.next, .int .i64 0]), (.tuple #[.agg #[.int .i64 g'.next, .slice A n c, .slice B m d], .int .i64 g'.next, .int .i64 0]), u184, (.int .i64 g'.next), u186] wz ⟨_, _, _, _, _, _, _, _, _, _, wz, rfl,
                { b := φ.b,
                  bb := fun h0 => φ.bb (by simpa using h0),
                  s0 := fun h0 => φ.s0 (by simpa using h0),
                  s1 := fun h0 => φ.s1 (by simpa using h0),
                  s2 := fun h0 => φ.s2 (by simpa using h0),
                  s3 := fun h0 => φ.s3 (by simpa using h0),
                  s4 := fun h0 => φ.s4 (by simpa using h0),
                  s5 := fun _ => ⟨A, n, c, B, m, d, rfl, hl, hl2, fun h2 => hsl (by simpa using h2), hfr, hfr2⟩,
                  s6 := fun h0 => φ.s6 (by simpa using h0),
                  s7 := fun h0 => φ.s7 (by simpa using h0),
                  st := fun h0 => φ.st (by simpa using h0) }, rfl⟩
              refine hG ?_
              clear hK φ hG
              revert hk
              go_simp
              first | done | exact fun h => h
            case q9 =>
              rintro L vs w' K ⟨u178, u179, u180, u181, u182, u183, u177, u184, u185, u186, wz, rfl, φ, rfl⟩ hL hpre hcl hK G hG
              simp [Region.binds, closedFrom] at hpre hcl
              obtain ⟨A, n, c, B, m, d, rfl, hl, hl2, hsl, hfr, hfr2⟩ := φ.s5 (by simp [hpre, hcl])
              obtain rfl := φ.s6 (by simp [hpre])
              have hk := hK [u178, u179, u180, u181, u182, (.tuple #[.agg #[.int .i64 g'.next, .slice A n c, .slice B m d], .int .i64 g'.next, .int .i64 0]), (.tuple #[.agg #[.int .i64 g'.next, .slice A n c, .slice B m d], .int .i64 g'.next, .int .i64 0]), u184, u185, (.int .i64 0)] wz ⟨_, _, _, _, _, _, _, _, _, _, wz, rfl,
                { b := φ.b,
                  bb := fun h0 => φ.bb (by simpa using h0),
                  s0 := fun h0 => φ.s0 (by simpa using h0),
                  s1 := fun h0 => φ.s1 (by simpa using h0),
                  s2 := fun h0 => φ.s2 (by simpa using h0),
                  s3 := fun h0 => φ.s3 (by simpa using h0),
                  s4 := fun h0 => φ.s4 (by simpa using h0),
                  s5 := fun _ => ⟨A, n, c, B, m, d, rfl, hl, hl2, fun h2 => hsl (by simpa using h2), hfr, hfr2⟩,
                  s6 := fun h0 => φ.s6 (by simpa using h0),
                  s7 := fun h0 => φ.s7 (by simpa using h0),
                  st := fun h0 => φ.st (by simpa using h0) }, rfl⟩
              refine hG ?_
              clear hK φ hG
              revert hk
              go_simp
              first | done | exact fun h => h
            case q10 =>
              rintro L vs w' K ⟨u178, u179, u180, u181, u182, u183, u177, u184, u185, u186, wz, rfl, φ, rfl⟩ hL hpre hcl hK G hG
              simp [Region.binds, closedFrom] at hpre hcl
              have b := φ.bb hL
              have ce0 := (b.cell (p := ⟨GX, 0, none⟩) ltG).trans g0
              have ce1 := (b.cell (p := ⟨GX, 1, none⟩) ltG).trans g1
              have ce2 := (b.cell (p := ⟨GX, 2, none⟩) ltG).trans g2
              have cf0 := (b.frozen (p := ⟨GX, 0, none⟩) ltG).trans fg0
              have cf1 := (b.frozen (p := ⟨GX, 1, none⟩) ltG).trans fg1
              have cf2 := (b.frozen (p := ⟨GX, 2, none⟩) ltG).trans fg2
              obtain ⟨A, n, c, B, m, d, rfl, hl, hl2, hsl, hfr, hfr2⟩ := φ.s5 (by simp [hpre])
              obtain rfl : u184 = .agg #[.int .i64 g'.next, .slice A n c, .slice B m d] := φ.s7 (by simp [hpre])
              obtain ⟨hs1, hs2⟩ := hsl hL
              have hk := hK [u178, u179, u180, u181, u182, (.tuple #[.agg #[.int .i64 g'.next, .slice A n c, .slice B m d], .int .i64 g'.next, .int .i64 0]), u177, (.agg #[.int .i64 g'.next, .slice A n c, .slice B m d]), u185, u186] (((wz.setCell ⟨GX, 0, none⟩ (.int .i64 g'.next)).setCell ⟨GX, 1, none⟩ (.slice A n c)).setCell ⟨GX, 2, none⟩ (.slice B m d)) ⟨_, _, _, _, _, _, _, _, _, _, (((wz.setCell ⟨GX, 0, none⟩ (.int .i64 g'.next)).setCell ⟨GX, 1, none⟩ (.slice A n c)).setCell ⟨GX, 2, none⟩ (.slice B m d)), rfl,
                { b := trivial,
                  bb := fun h => by simp at h,
                  s0 := fun h0 => φ.s0 (by simpa using h0),
                  s1 := fun h0 => φ.s1 (by simpa using h0),
                  s2 := fun h0 => φ.s2 (by simpa using h0),
                  s3 := fun h0 => φ.s3 (by simpa using h0),
                  s4 := fun h0 => φ.s4 (by simpa using h0),
                  s5 := fun _ => ⟨A, n, c, B, m, d, rfl, hl, hl2, fun h => by simp at h, hfr, hfr2⟩,
                  s6 := fun h0 => φ.s6 (by simpa using h0),
                  s7 := fun h0 => φ.s7 (by simpa using h0),
                  st := fun _ => ⟨A, n, c, B, m, d, wz, rfl, hl, hl2, hs1, hs2, hfr, hfr2, b, rfl⟩ }, rfl⟩
              refine hG ?_
              clear hK φ hG
              revert hk
              go_simp
              first | done | exact fun h => h
            case hend =>
              rintro vs w' ⟨u178, u179, u180, u181, u182, u183, u177, u184, u185, u186, wz, rfl, φ, rfl⟩ G hG
              obtain ⟨A, n, c, B, m, d, wy, rfl, hl, hl2, hsl, hsl2, hfr, hfr2, b9, rfl⟩ := φ.st rfl
              clear φ
              have hfa : OffP (FarP SX GX (.slice TA tn tc) (.slice KA kn kc)) g'.early A := far_old L hfr
              have hfb : OffP (FarP SX GX (.slice TA tn tc) (.slice KA kn kc)) g'.came B := far_old L hfr2
              replace L := (L.below b9).setG (n' := n) (c' := c) (m' := m) (d' := d) ⟨hsl, hsl2⟩ hl hl2 hfa hfb
              have hob : ob ≠ GX := (hfo (fun e2 => by rw [e2] at HON; have h0 := HON.out; simp at h0; omega) _ rfl).2.1
              have hso3 := (hso2.below b9).set3 (X := GX) (fun a e => by rw [← Option.some.inj e]; exact hob) (.int .i64 g'.next) (.slice A n c) (.slice B m d)
              refine hG ?_
              clear hG cG pq0 pq1 b9 hso hso2 hsl hsl2 hfa hfb hfr hfr2
              generalize ((wy.setCell ⟨GX, 0, none⟩ (.int .i64 g'.next)).setCell ⟨GX, 1, none⟩ (.slice A n c)).setCell ⟨GX, 2, none⟩ (.slice B m d) = w20 at *
              clear s0 s1 fs0 fs1 g0 g1 g2 fg0 fg1 fg2 ltS ltG
              go_wp2_with fail
              go_roundg (on - (kk + 1))
              case measure => omega
              case rel => exact ⟨kk + 1, g', A, n, c, B, m, d, by omega, by omega, by go_num, (show Aside _ from HF2.out), L, hso3⟩
          · have y1 : ¬ (kk : Int) < (on : Int) := by omega
            obtain rfl : kk = on := by omega
            have hF3 := HF.out
            rw [← HON.out] at hF3
            obtain ⟨d1, d2⟩ := hF3.done
            have gm0 : gm = tn := by rw [← L.egm, ← L.etn]; exact d1
            have gn0 : gn = 0 := by rw [← L.egn, d2]; rfl
            subst gm0
            subst gn0
            clear hF3 d1 d2 HF
            have b := L.b
            have s0 := L.s0
            have s1 := L.s1
            have fs0 := L.fs0
            have fs1 := L.fs1
            have g0 := L.g0
            have g1 := L.g1
            have g2 := L.g2
            have fg0 := L.fg0
            have fg1 := L.fg1
            have fg2 := L.fg2
            have ltS := L.ltS
            have ltG := L.ltG
            go_wp2_with fail
            go_ret
            exact ⟨rfl, b⟩)

theorem once_row (A : Option Addr) (c : Nat) (l : List Wrd) (B : Option Addr) (d : Nat) (q : List Int) (w : World) (hs : Sl 1 Wrd.enc w A l) (ht : Sl 1 encH w B q) (hq : ∀ x ∈ q, 0 ≤ x ∧ x ≤ 65535) :
    Calls Try.prog 3 #[.slice A l.length c, .slice B q.length d] w fun e w' => e = .returned (.bool true) ∧ Below w.heap.size w w' :=
  once_walk A B _ c _ d l q w hs ht rfl rfl hq
end Go.Proofs.Ytjnpdicoopgkoaa
