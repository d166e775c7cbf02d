/- The walk of CacheRight. -/
import Derived.Test.YtdndanjabknjpaaBP
import Derived.Test.YtdndanjabknjpaaOr
namespace Go.Proofs.Ytdndanjabknjpaa
open Go.RowKit Go.Lib

set_option linter.unusedVariables false
attribute [local go_sem] Act.puts
attribute [local go_sem high] eq32
structure LaZ (w0 : World) (y x : Ca) (Bq B8 B A : Option Addr) (dq d8 d c i : Nat) (kq : Int) (r : Bool) (L : Nat → Bool) (u163 u164 u165 u166 u167 u168 u169 u170 u171 u172 u173 u174 u175 u176 u177 u178 u179 u180 u181 u182 u12 : Value) (wz : World) : Prop where
  b : Below w0.heap.size w0 wz
  s0 : L 0 = true → u163 = .agg #[.int .i64 y.sets, .int .i64 y.ways, .int .i64 y.clock, .slice Bq y.lines.length dq]
  s1 : L 1 = true → u164 = .agg #[.int .i64 y.sets, .int .i64 y.ways, .int .i64 y.clock, .slice B8 y.lines.length d8]
  s2 : L 2 = true → u165 = .bool true
  s3 : L 3 = true → u166 = .bool true
  s4 : L 4 = true → u167 = .int .i64 kq
  s5 : L 5 = true → u168 = .int .i64 kq
  s6 : L 6 = true → u169 = .bool true
  s7 : L 7 = true → u170 = .bool true
  s8 : L 8 = true → u171 = .bool true
  s9 : L 9 = true → u172 = .agg #[.int .i64 x.sets, .int .i64 x.ways, .int .i64 x.clock, .slice B i d]
  s10 : L 10 = true → u173 = .bool r
  s11 : L 11 = true → u174 = .agg #[.int .i64 x.sets, .int .i64 x.ways, .int .i64 x.clock, .slice A i c]
  s12 : L 12 = true → u175 = .bool r
  s13 : L 13 = true → u176 = .bool true
  s14 : L 14 = true → u177 = .bool true
  s15 : L 15 = true → u178 = .bool true
  s16 : L 16 = true → u179 = .agg #[.int .i64 x.sets, .int .i64 x.ways, .int .i64 x.clock, .slice B i d]
  s17 : L 17 = true → u180 = .agg #[.int .i64 x.sets, .int .i64 x.ways, .int .i64 x.clock, .slice A i c]
  s18 : L 18 = true → u181 = .bool true
  s19 : L 19 = true → u182 = .bool true
  s20 : L 20 = true → u12 = .bool true
def LaZPhi (w0 : World) (y x : Ca) (Bq B8 B A : Option Addr) (dq d8 d c i : Nat) (kq : Int) (r : Bool) (L : Nat → Bool) (vs : List Value) (w' : World) : Prop :=
  ∃ u163 u164 u165 u166 u167 u168 u169 u170 u171 u172 u173 u174 u175 u176 u177 u178 u179 u180 u181 u182 u12 wz, vs = [u163, u164, u165, u166, u167, u168, u169, u170, u171, u172, u173, u174, u175, u176, u177, u178, u179, u180, u181, u182, u12] ∧ LaZ w0 y x Bq B8 B A dq d8 d c i kq r L u163 u164 u165 u166 u167 u168 u169 u170 u171 u172 u173 u174 u175 u176 u177 u178 u179 u180 u181 u182 u12 wz ∧ wz = w'

set_option maxHeartbeats 16000000 in
set_option maxRecDepth 100000 in
theorem right_law (A : Option Addr) (c n : Nat) (x : Ca) (hs : List Hd) (t st v se wa : Int) (w : World) (hc : CIn w A x.lines hs) (hn : x.lines.length = n) (hwf : WfC x) :
    Calls Try.prog 4 #[.agg #[.int .i64 x.sets, .int .i64 x.ways, .int .i64 x.clock, .slice A n c], .int .i64 t, .int .i64 st, .int .u32 v, .int .i64 se, .int .i64 wa] w fun e w' => e = .returned (.bool true) ∧ Below w.heap.size w w' := by
  obtain ⟨i0, hi0, hz0, hz1, hz2⟩ := info_parts info32
  obtain ⟨j0, hj0, hy0, hy1, hy2⟩ := info_parts info40
  have cW := fun w1 => awake_any w1
  have cS := fun w1 (h : CIn w1 A x.lines hs) => short_any A c n x hs w1 h hn
  have b0 : Below w.heap.size w (w.alloc (.cells #[.int .i64 x.sets, .int .i64 x.ways, .int .i64 x.clock, .slice A n c] 26)) := (Below.refl _ _).alloc (Nat.le_refl _) _
  have X := Bx.new w [.int .i64 x.sets, .int .i64 x.ways, .int .i64 x.clock, .slice A n c] 26
  have HC0 := Lib.hid hc
  have HN := Lib.hid hn
  have HWF := Lib.hid hwf
  clear hc hn hwf
  cases hsh : shortC x with
  | false =>
    rw [hsh] at cS
    go_enter Try.func4, Try.ntmps4
    go_wp2_with fail
    generalize w.alloc (.cells #[.int .i64 x.sets, .int .i64 x.ways, .int .i64 x.clock, .slice A n c] 26) = W0 at *
    refine (cW _).mono ?_
    rintro e w1 ⟨rfl, hb1⟩
    replace X := X.below hb1
    have b1 := b0.trans (hb1.mono b0.size)
    have x0 := X.cell 0 _ rfl
    have x1 := X.cell 1 _ rfl
    have x2 := X.cell 2 _ rfl
    have x3 := X.cell 3 _ rfl
    clear cW hb1
    go_wp2_with fail
    refine (cS _ (HC0.out.below b1)).mono ?_
    rintro e w2 ⟨rfl, hb2⟩
    have b2 := b1.trans (hb2.mono b1.size)
    clear cS hb2 x0 x1 x2 x3
    go_wp2_with fail
    go_ret
    exact ⟨rfl, b2⟩
  | true =>
    have hsh2 := of_decide_eq_true hsh
    rw [HN.out] at hsh2
    obtain ⟨hn10, hb10⟩ := hsh2
    have HB10 := Lib.hid hb10
    rw [hsh] at cS
    clear hsh hb10
    go_enter Try.func4, Try.ntmps4
    go_wp2_with fail
    generalize w.alloc (.cells #[.int .i64 x.sets, .int .i64 x.ways, .int .i64 x.clock, .slice A n c] 26) = W0 at *
    refine (cW _).mono ?_
    rintro e w1 ⟨rfl, hb1⟩
    replace X := X.below hb1
    have b1 := b0.trans (hb1.mono b0.size)
    have x0 := X.cell 0 _ rfl
    have x1 := X.cell 1 _ rfl
    have x2 := X.cell 2 _ rfl
    have x3 := X.cell 3 _ rfl
    clear cW hb1
    go_wp2_with fail
    refine (cS _ (HC0.out.below b1)).mono ?_
    rintro e w2 ⟨rfl, hb2⟩
    replace X := X.below hb2
    have b2 := b1.trans (hb2.mono b1.size)
    clear cS hb2 x0 x1 x2 x3 b1
    have x0 := X.cell 0 _ rfl
    have x1 := X.cell 1 _ rfl
    have x2 := X.cell 2 _ rfl
    have x3 := X.cell 3 _ rfl
    have hXl := X.lt
    have X0 := X
    have M := Bx.new w2 [.int .i64 x.sets, .int .i64 x.ways, .int .i64 x.clock, .slice none 0 0] 26
    replace X := X.alloc (.cells #[.int .i64 x.sets, .int .i64 x.ways, .int .i64 x.clock, .slice none 0 0] 26)
    have b3 := b2.alloc b2.size (.cells #[.int .i64 x.sets, .int .i64 x.ways, .int .i64 x.clock, .slice none 0 0] 26)
    have hsz2 := b2.size
    go_wp2_with fail
    replace X := X0
    clear x0 x1 x2 x3 X0
    generalize hW1 : w2.alloc (.cells #[.int .i64 x.sets, .int .i64 x.ways, .int .i64 x.clock, .slice none 0 0] 26) = W1 at *
    have hW1s : W1.heap.size = w2.heap.size + 1 := by rw [← hW1]; simp
    have bW : Below w2.heap.size w2 W1 := by rw [← hW1]; exact bnew
    clear hW1
    obtain ⟨MX, hMX⟩ : ∃ MX, w2.heap.size = MX := ⟨_, rfl⟩
    obtain ⟨base, hbs⟩ : ∃ base, W1.heap.size = base := ⟨_, rfl⟩
    have hMb : MX < base := by omega
    have own00 : OwnC W1 base (.slice none 0 0) 0 (x.lines.take 0) [] := OwnC.nil _ _
    have hbase0 : base ≤ W1.heap.size := by omega
    rw [hMX] at M
    generalize hCX : w.heap.size = CX at X ⊢
    simp only [hMX]
    have HCX := Lib.hid hCX
    have HMX := Lib.hid hMX
    have hMX2 : w2.heap.size ≤ MX := by omega
    have hb2m : w2.heap.size ≤ base := by omega
    clear hCX hMX hW1s hbs
    go_loopg [14] n (fun gg s14 wr => ∃ (i : Nat) (B : Option Addr) (d : Nat) (hs2 : List Hd), i ≤ n ∧ n - i ≤ gg ∧ s14 = .int .i64 (i : Int) ∧ OwnC wr base (.slice B i d) i (x.lines.take i) hs2 ∧ Aside (Bx wr MX [.int .i64 x.sets, .int .i64 x.ways, .int .i64 x.clock, .slice B i d]) ∧ Aside (Below w2.heap.size w2 wr) ∧ Aside (base ≤ wr.heap.size))
    case atStart => exact ⟨0, none, 0, [], Nat.zero_le _, by omega, rfl, own00, (show Aside _ from M), (show Aside _ from bW), (show Aside _ from hbase0)⟩
    case round =>
      clear own00 M bW hbase0
      obtain ⟨i, B, d, hs2, hin, hgi, rfl, own, HM, HB, HBS⟩ := hrel
      have bF := b2.trans (HB.out.mono b2.size)
      have x3 := (X.below HB.out).cell 3 _ rfl
      by_cases hlt : i < n
      · have hltz : (i : Int) < (n : Int) := by omega
        obtain ⟨bb, off, B2, m, c2, e1, hcell, hm, hmc, _, hsl⟩ := (HC0.out.below bF).at_ i (by rw [HN.out]; exact hlt)
        subst e1
        have hTK0 := lsTake (show i < x.lines.length by rw [HN.out]; exact hlt)
        have hm10 : m ≤ 10 := by rw [← hm]; exact HB10.out i hlt
        obtain ⟨l, hl⟩ : ∃ l, l = x.lines[i]! := ⟨_, rfl⟩
        rw [← hl] at hm hsl hTK0
        have HTK := Lib.hid hTK0
        clear hl hTK0
        replace hsl := hsl.below (Below.refl _ _).drew
        replace hcell : wr.drew.cell? ⟨bb, off + i, none⟩ = _ := hcell
        have x3w := x3
        replace x3 : wr.drew.cell? ⟨CX, 3, none⟩ = _ := x3
        have m3 : wr.drew.cell? ⟨MX, 3, none⟩ = some (.slice B i d) := HM.out.cell 3 _ rfl
        have fm3 : wr.drew.frozen? ⟨MX, 3, none⟩ = false := HM.out.froz 3
        have own0 := own.below (Below.refl _ _).drew
        have hbase : base ≤ wr.drew.heap.size := HBS.out
        clear own
        go_wp2_with fail
        clear x3w
        have hTK := HTK.out
        refine wp_region_rg (by kernel_rfl) (by kernel_rfl) [37, 38, 39, 40, 41, 42, 43, 44, 45, 46, 47, 48] (CcRPhi wr.drew base MX CX bb off n c i m c2 d B B2 x l hs2) ?h0 ⟨?q0, ?q1, ?q2, ?q3, ?q4, ?q5, ?q6, ?q7, ?q8, ?q9, ?q10, ?q11, ?q12, trivial⟩ ?hend
        case h0 => exact ⟨_, _, _, _, _, _, _, _, _, _, _, _, _, rfl, ⟨Below.refl _ _, (fun h => by cases h), (fun h => by cases h), (fun h => by cases h), (fun h => by cases h), (fun h => by cases h), (fun h => by cases h), (fun h => by cases h), (fun h => by cases h), (fun h => by cases h), (fun h => by cases h), (fun h => by cases h), (fun h => by cases h), (fun _ => own0), (fun _ => Below.refl _ _)⟩, rfl⟩
        case q0 =>
          rintro L vs w' K ⟨u37, u38, u39, u40, u41, u42, u43, u44, u45, u46, u47, u48, wz, rfl, φ, rfl⟩ hL hpre hcl hK G hG
          simp [Region.binds, closedFrom] at hpre hcl
          have hst : L 12 = false := by
            cases h : L 12 with
            | false => rfl
            | true => simp [h, hL] at hcl
          simp only [hst, Bool.false_eq_true, if_false] at hK hG
          have hk := hK [(.pointer (some ⟨MX, 3, none⟩)), u38, u39, u40, u41, u42, u43, u44, u45, u46, u47, u48] wz ⟨_, _, _, _, _, _, _, _, _, _, _, _, wz, rfl,
            { b := φ.b,
              s0 := fun _ => rfl,
              s1 := fun h0 => φ.s1 (by simpa using h0),
              s2 := fun h0 h1 => φ.s2 (by simpa using h0) (by simpa using h1),
              s3 := fun h0 => φ.s3 (by simpa using h0),
              s4 := fun h0 => φ.s4 (by simpa using h0),
              s5 := fun h0 => φ.s5 (by simpa using h0),
              s6 := fun h0 => φ.s6 (by simpa using h0),
              s7 := fun h0 => φ.s7 (by simpa using h0),
              s8 := fun h0 h1 => φ.s8 (by simpa using h0) (by simpa using h1),
              s9 := fun h0 h1 => φ.s9 (by simpa using h0) (by simpa using h1),
              s10 := fun h0 => φ.s10 (by simpa using h0),
              s11 := fun h0 => φ.s11 (by simpa using h0),
              o0 := fun h0 => φ.o0 (by simpa using h0),
              b0 := fun h0 => φ.b0 (by simpa using h0) }, by simp [hst]⟩
          refine hG ?_
          clear hK φ hG
          revert hk
          go_simp
          first | done | exact fun h => h
        case q1 =>
          rintro L vs w' K ⟨u37, u38, u39, u40, u41, u42, u43, u44, u45, u46, u47, u48, wz, rfl, φ, rfl⟩ hL hpre hcl hK G hG
          simp [Region.binds, closedFrom] at hpre hcl
          have hst : L 12 = false := by
            cases h : L 12 with
            | false => rfl
            | true => simp [h, hL] at hcl
          simp only [hst, Bool.false_eq_true, if_false] at hK hG
          have e0 := φ.s0 (by simp [hpre])
          subst e0
          have L10 : L 10 = false := by
            cases h : L 10 with
            | false => rfl
            | true => simp [h, hL] at hcl
          have hb := φ.b0 L10
          have ce0 := (hb.cell (p := ⟨MX, 3, none⟩) (World.block_lt_of_cell? _ _ m3)).trans m3
          have hk := hK [(.pointer (some ⟨MX, 3, none⟩)), (.slice B i d), u39, u40, u41, u42, u43, u44, u45, u46, u47, u48] wz ⟨_, _, _, _, _, _, _, _, _, _, _, _, wz, rfl,
            { b := φ.b,
              s0 := fun h0 => φ.s0 (by simpa using h0),
              s1 := fun _ => rfl,
              s2 := fun h0 h1 => φ.s2 (by simpa using h0) (by simpa using h1),
              s3 := fun h0 => φ.s3 (by simpa using h0),
              s4 := fun h0 => φ.s4 (by simpa using h0),
              s5 := fun h0 => φ.s5 (by simpa using h0),
              s6 := fun h0 => φ.s6 (by simpa using h0),
              s7 := fun h0 => φ.s7 (by simpa using h0),
              s8 := fun h0 h1 => φ.s8 (by simpa using h0) (by simpa using h1),
              s9 := fun h0 h1 => φ.s9 (by simpa using h0) (by simpa using h1),
              s10 := fun h0 => φ.s10 (by simpa using h0),
              s11 := fun h0 => φ.s11 (by simpa using h0),
              o0 := fun h0 => φ.o0 (by simpa using h0),
              b0 := fun h0 => φ.b0 (by simpa using h0) }, by simp [hst]⟩
          refine hG ?_
          clear hK φ hG
          revert hk
          go_simp
          first | done | exact fun h => h
        case q2 =>
          rintro L vs w' K ⟨u37, u38, u39, u40, u41, u42, u43, u44, u45, u46, u47, u48, wz, rfl, φ, rfl⟩ hL hpre hcl hK G hG
          simp [Region.binds, closedFrom] at hpre hcl
          have hst : L 12 = false := by
            cases h : L 12 with
            | false => rfl
            | true => simp [h, hL] at hcl
          simp only [hst, Bool.false_eq_true, if_false] at hK hG
          have L8 : L 8 = false := by
            cases h : L 8 with
            | false => rfl
            | true => simp [h, hL] at hcl
          have L9 : L 9 = false := by
            cases h : L 9 with
            | false => rfl
            | true => simp [h, hL, L8] at hcl
          have L10 : L 10 = false := by
            cases h : L 10 with
            | false => rfl
            | true => simp [h, hL, L8, L9] at hcl
          have hb := φ.b0 L10
          have hk := hK [u37, u38, (.slice (some ⟨wz.heap.size, 0, none⟩) 0 0), u40, u41, u42, u43, u44, u45, u46, u47, u48] (wz.alloc (.cells #[] 32)) ⟨_, _, _, _, _, _, _, _, _, _, _, _, (wz.alloc (.cells #[] 32)), rfl,
            { b := φ.b.alloc (Nat.le_trans hbase hb.size) _,
              s0 := fun h0 => φ.s0 (by simpa using h0),
              s1 := fun h0 => φ.s1 (by simpa using h0),
              s2 := fun _ _ => World.ownsRow_made wz #[] 0 hb.size (Nat.zero_le _) (by simp),
              s3 := fun h0 => φ.s3 (by simpa using h0),
              s4 := fun h0 => φ.s4 (by simpa using h0),
              s5 := fun h0 => φ.s5 (by simpa using h0),
              s6 := fun h0 => φ.s6 (by simpa using h0),
              s7 := fun h0 => φ.s7 (by simpa using h0),
              s8 := fun h => by simp [L8] at h,
              s9 := fun h => by simp [L9] at h,
              s10 := fun h => by simp [L10] at h,
              s11 := fun h0 => φ.s11 (by simpa using h0),
              o0 := fun _ => (φ.o0 L10).below ((Below.refl wz.heap.size wz).alloc (Nat.le_refl _) _),
              b0 := fun _ => hb.alloc hb.size _ }, by simp [hst]⟩
          refine hG ?_
          clear hK φ hG
          revert hk
          go_simp
          first | done | exact fun h => h
        case q3 =>
          rintro L vs w' K ⟨u37, u38, u39, u40, u41, u42, u43, u44, u45, u46, u47, u48, wz, rfl, φ, rfl⟩ hL hpre hcl hK G hG
          simp [Region.binds, closedFrom] at hpre hcl
          have hst : L 12 = false := by
            cases h : L 12 with
            | false => rfl
            | true => simp [h, hL] at hcl
          simp only [hst, Bool.false_eq_true, if_false] at hK hG
          have hk := hK [u37, u38, u39, (.pointer (some ⟨CX, 3, none⟩)), u41, u42, u43, u44, u45, u46, u47, u48] wz ⟨_, _, _, _, _, _, _, _, _, _, _, _, wz, rfl,
            { b := φ.b,
              s0 := fun h0 => φ.s0 (by simpa using h0),
              s1 := fun h0 => φ.s1 (by simpa using h0),
              s2 := fun h0 h1 => φ.s2 (by simpa using h0) (by simpa using h1),
              s3 := fun _ => rfl,
              s4 := fun h0 => φ.s4 (by simpa using h0),
              s5 := fun h0 => φ.s5 (by simpa using h0),
              s6 := fun h0 => φ.s6 (by simpa using h0),
              s7 := fun h0 => φ.s7 (by simpa using h0),
              s8 := fun h0 h1 => φ.s8 (by simpa using h0) (by simpa using h1),
              s9 := fun h0 h1 => φ.s9 (by simpa using h0) (by simpa using h1),
              s10 := fun h0 => φ.s10 (by simpa using h0),
              s11 := fun h0 => φ.s11 (by simpa using h0),
              o0 := fun h0 => φ.o0 (by simpa using h0),
              b0 := fun h0 => φ.b0 (by simpa using h0) }, by simp [hst]⟩
          refine hG ?_
          clear hK φ hG
          revert hk
          go_simp
          first | done | exact fun h => h
        case q4 =>
          rintro L vs w' K ⟨u37, u38, u39, u40, u41, u42, u43, u44, u45, u46, u47, u48, wz, rfl, φ, rfl⟩ hL hpre hcl hK G hG
          simp [Region.binds, closedFrom] at hpre hcl
          have hst : L 12 = false := by
            cases h : L 12 with
            | false => rfl
            | true => simp [h, hL] at hcl
          simp only [hst, Bool.false_eq_true, if_false] at hK hG
          have e3 := φ.s3 (by simp [hpre])
          subst e3
          have L6 : L 6 = false := by
            cases h : L 6 with
            | false => rfl
            | true => simp [h, hL] at hcl
          have L7 : L 7 = false := by
            cases h : L 7 with
            | false => rfl
            | true => simp [h, hL, L6] at hcl
          have L8 : L 8 = false := by
            cases h : L 8 with
            | false => rfl
            | true => simp [h, hL, L6, L7] at hcl
          have L9 : L 9 = false := by
            cases h : L 9 with
            | false => rfl
            | true => simp [h, hL, L6, L7, L8] at hcl
          have L10 : L 10 = false := by
            cases h : L 10 with
            | false => rfl
            | true => simp [h, hL, L6, L7, L8, L9] at hcl
          have hb := φ.b0 L10
          have ce0 := (hb.cell (p := ⟨CX, 3, none⟩) (World.block_lt_of_cell? _ _ x3)).trans x3
          have hk := hK [u37, u38, u39, (.pointer (some ⟨CX, 3, none⟩)), (.slice (some ⟨bb, off, none⟩) n c), u42, u43, u44, u45, u46, u47, u48] wz ⟨_, _, _, _, _, _, _, _, _, _, _, _, wz, rfl,
            { b := φ.b,
              s0 := fun h0 => φ.s0 (by simpa using h0),
              s1 := fun h0 => φ.s1 (by simpa using h0),
              s2 := fun h0 h1 => φ.s2 (by simpa using h0) (by simpa using h1),
              s3 := fun h0 => φ.s3 (by simpa using h0),
              s4 := fun _ => rfl,
              s5 := fun h0 => φ.s5 (by simpa using h0),
              s6 := fun h0 => φ.s6 (by simpa using h0),
              s7 := fun h0 => φ.s7 (by simpa using h0),
              s8 := fun h0 h1 => φ.s8 (by simpa using h0) (by simpa using h1),
              s9 := fun h0 h1 => φ.s9 (by simpa using h0) (by simpa using h1),
              s10 := fun h0 => φ.s10 (by simpa using h0),
              s11 := fun h0 => φ.s11 (by simpa using h0),
              o0 := fun h0 => φ.o0 (by simpa using h0),
              b0 := fun h0 => φ.b0 (by simpa using h0) }, by simp [hst]⟩
          refine hG ?_
          clear hK φ hG
          revert hk
          go_simp
          first | done | exact fun h => h
        case q5 =>
          rintro L vs w' K ⟨u37, u38, u39, u40, u41, u42, u43, u44, u45, u46, u47, u48, wz, rfl, φ, rfl⟩ hL hpre hcl hK G hG
          simp [Region.binds, closedFrom] at hpre hcl
          have hst : L 12 = false := by
            cases h : L 12 with
            | false => rfl
            | true => simp [h, hL] at hcl
          simp only [hst, Bool.false_eq_true, if_false] at hK hG
          have hk := hK [u37, u38, u39, u40, u41, (.int .i64 (i : Int)), u43, u44, u45, u46, u47, u48] wz ⟨_, _, _, _, _, _, _, _, _, _, _, _, wz, rfl,
            { b := φ.b,
              s0 := fun h0 => φ.s0 (by simpa using h0),
              s1 := fun h0 => φ.s1 (by simpa using h0),
              s2 := fun h0 h1 => φ.s2 (by simpa using h0) (by simpa using h1),
              s3 := fun h0 => φ.s3 (by simpa using h0),
              s4 := fun h0 => φ.s4 (by simpa using h0),
              s5 := fun _ => rfl,
              s6 := fun h0 => φ.s6 (by simpa using h0),
              s7 := fun h0 => φ.s7 (by simpa using h0),
              s8 := fun h0 h1 => φ.s8 (by simpa using h0) (by simpa using h1),
              s9 := fun h0 h1 => φ.s9 (by simpa using h0) (by simpa using h1),
              s10 := fun h0 => φ.s10 (by simpa using h0),
              s11 := fun h0 => φ.s11 (by simpa using h0),
              o0 := fun h0 => φ.o0 (by simpa using h0),
              b0 := fun h0 => φ.b0 (by simpa using h0) }, by simp [hst]⟩
          refine hG ?_
          clear hK φ hG
          revert hk
          go_simp
          first | done | exact fun h => h
        case q6 =>
          rintro L vs w' K ⟨u37, u38, u39, u40, u41, u42, u43, u44, u45, u46, u47, u48, wz, rfl, φ, rfl⟩ hL hpre hcl hK G hG
          simp [Region.binds, closedFrom] at hpre hcl
          have hst : L 12 = false := by
            cases h : L 12 with
            | false => rfl
            | true => simp [h, hL] at hcl
          simp only [hst, Bool.false_eq_true, if_false] at hK hG
          have e4 := φ.s4 (by simp [hpre])
          subst e4
          have e5 := φ.s5 (by simp [hpre])
          subst e5
          have hk := hK [u37, u38, u39, u40, (.slice (some ⟨bb, off, none⟩) n c), (.int .i64 (i : Int)), (.pointer (some ⟨bb, off + i, none⟩)), u44, u45, u46, u47, u48] wz ⟨_, _, _, _, _, _, _, _, _, _, _, _, wz, rfl,
            { b := φ.b,
              s0 := fun h0 => φ.s0 (by simpa using h0),
              s1 := fun h0 => φ.s1 (by simpa using h0),
              s2 := fun h0 h1 => φ.s2 (by simpa using h0) (by simpa using h1),
              s3 := fun h0 => φ.s3 (by simpa using h0),
              s4 := fun h0 => φ.s4 (by simpa using h0),
              s5 := fun h0 => φ.s5 (by simpa using h0),
              s6 := fun _ => rfl,
              s7 := fun h0 => φ.s7 (by simpa using h0),
              s8 := fun h0 h1 => φ.s8 (by simpa using h0) (by simpa using h1),
              s9 := fun h0 h1 => φ.s9 (by simpa using h0) (by simpa using h1),
              s10 := fun h0 => φ.s10 (by simpa using h0),
              s11 := fun h0 => φ.s11 (by simpa using h0),
              o0 := fun h0 => φ.o0 (by simpa using h0),
              b0 := fun h0 => φ.b0 (by simpa using h0) }, by simp [hst]⟩
          refine hG ?_
          clear hK φ hG
          revert hk
          go_simp
          first | done | exact fun h => h
        case q7 =>
          rintro L vs w' K ⟨u37, u38, u39, u40, u41, u42, u43, u44, u45, u46, u47, u48, wz, rfl, φ, rfl⟩ hL hpre hcl hK G hG
          simp [Region.binds, closedFrom] at hpre hcl
          have hst : L 12 = false := by
            cases h : L 12 with
            | false => rfl
            | true => simp [h, hL] at hcl
          simp only [hst, Bool.false_eq_true, if_false] at hK hG
          have e6 := φ.s6 (by simp [hpre])
          subst e6
          have L8 : L 8 = false := by
            cases h : L 8 with
            | false => rfl
            | true => simp [h, hL] at hcl
          have L9 : L 9 = false := by
            cases h : L 9 with
            | false => rfl
            | true => simp [h, hL, L8] at hcl
          have L10 : L 10 = false := by
            cases h : L 10 with
            | false => rfl
            | true => simp [h, hL, L8, L9] at hcl
          have hb := φ.b0 L10
          have ce0 := (hb.cell (p := ⟨bb, off + i, none⟩) (World.block_lt_of_cell? _ _ hcell)).trans hcell
          have hk := hK [u37, u38, u39, u40, u41, u42, (.pointer (some ⟨bb, off + i, none⟩)), (.slice B2 m c2), u45, u46, u47, u48] wz ⟨_, _, _, _, _, _, _, _, _, _, _, _, wz, rfl,
            { b := φ.b,
              s0 := fun h0 => φ.s0 (by simpa using h0),
              s1 := fun h0 => φ.s1 (by simpa using h0),
              s2 := fun h0 h1 => φ.s2 (by simpa using h0) (by simpa using h1),
              s3 := fun h0 => φ.s3 (by simpa using h0),
              s4 := fun h0 => φ.s4 (by simpa using h0),
              s5 := fun h0 => φ.s5 (by simpa using h0),
              s6 := fun h0 => φ.s6 (by simpa using h0),
              s7 := fun _ => rfl,
              s8 := fun h0 h1 => φ.s8 (by simpa using h0) (by simpa using h1),
              s9 := fun h0 h1 => φ.s9 (by simpa using h0) (by simpa using h1),
              s10 := fun h0 => φ.s10 (by simpa using h0),
              s11 := fun h0 => φ.s11 (by simpa using h0),
              o0 := fun h0 => φ.o0 (by simpa using h0),
              b0 := fun h0 => φ.b0 (by simpa using h0) }, by simp [hst]⟩
          refine hG ?_
          clear hK φ hG
          revert hk
          go_simp
          first | done | exact fun h => h
        case q8 =>
          rintro L vs w' K ⟨u37, u38, u39, u40, u41, u42, u43, u44, u45, u46, u47, u48, wz, rfl, φ, rfl⟩ hL hpre hcl hK G hG
          simp [Region.binds, closedFrom] at hpre hcl
          have hst : L 12 = false := by
            cases h : L 12 with
            | false => rfl
            | true => simp [h, hL] at hcl
          simp only [hst, Bool.false_eq_true, if_false] at hK hG
          have e7 := φ.s7 (by simp [hpre])
          subst e7
          have o1 := φ.s2 (by simp [hpre]) hL
          have L9 : L 9 = false := by
            cases h : L 9 with
            | false => rfl
            | true => simp [h, hL] at hcl
          have L10 : L 10 = false := by
            cases h : L 10 with
            | false => rfl
            | true => simp [h, hL, L9] at hcl
          have hb := φ.b0 L10
          refine hG (step_append_sl wz rfl (.tmp 39) (.tmp 44) 40 rfl wr.drew.heap.size 32 i0 _ 4 32 Try.underlying40 hi0 hz0 hz1 hz2 rfl (by decide) u39 0 _ (by simp [Act.eval, Act.puts, Act.put]) o1 Ln.enc Ln.enc_len Ln.enc_one B2 m c2 l (by simp [Act.eval, Act.puts, Act.put]) hm (hsl.below hb) (by unfold maxLen; omega) (by omega) hb.size ?_)
          intro v' w9 ownN hgrow hat
          have b9 : Below wr.drew.heap.size wr.drew w9 := below_append hb hgrow hb.size o1 (Nat.le_refl _)
          have b9s : Below base wz w9 := below_append (Below.refl base wz) hgrow (Nat.le_trans hbase hb.size) o1 hbase
          obtain ⟨B3, c3, rfl⟩ := own_shape ownN
          rw [Nat.zero_add, List.nil_append] at ownN
          have oo := (φ.o0 L10)
          have oo9 : OwnC w9 base (.slice B i d) i (x.lines.take i) hs2 := oo.keepRow hgrow (fun g e => by have h1 := (o1.lt g e).1; exact ⟨fun h => by have := (own0.outer.lt g h).2; omega, fun j hj h => by have := ((own0.inner j hj).2.lt g h).2; omega⟩)
          have hk := hK [u37, u38, u39, u40, u41, u42, u43, (.slice B2 m c2), (.slice B3 m c3), u46, u47, u48] w9 ⟨_, _, _, _, _, _, _, _, _, _, _, _, w9, rfl,
            { b := φ.b.trans b9s,
              s0 := fun h0 => φ.s0 (by simpa using h0),
              s1 := fun h0 => φ.s1 (by simpa using h0),
              s2 := fun _ h => by simp at h,
              s3 := fun h0 => φ.s3 (by simpa using h0),
              s4 := fun h0 => φ.s4 (by simpa using h0),
              s5 := fun h0 => φ.s5 (by simpa using h0),
              s6 := fun h0 => φ.s6 (by simpa using h0),
              s7 := fun h0 => φ.s7 (by simpa using h0),
              s8 := fun _ _ => ⟨B3, c3, rfl, ownN⟩,
              s9 := fun h => by simp [L9] at h,
              s10 := fun h => by simp [L10] at h,
              s11 := fun h0 => φ.s11 (by simpa using h0),
              o0 := fun _ => oo9,
              b0 := fun _ => b9 }, by simp [hst]⟩
          clear hK φ hG
          revert hk
          go_simp
          first | done | exact fun h => h
        case q9 =>
          rintro L vs w' K ⟨u37, u38, u39, u40, u41, u42, u43, u44, u45, u46, u47, u48, wz, rfl, φ, rfl⟩ hL hpre hcl hK G hG
          simp [Region.binds, closedFrom] at hpre hcl
          have hst : L 12 = false := by
            cases h : L 12 with
            | false => rfl
            | true => simp [h, hL] at hcl
          simp only [hst, Bool.false_eq_true, if_false] at hK hG
          have L10 : L 10 = false := by
            cases h : L 10 with
            | false => rfl
            | true => simp [h, hL] at hcl
          have hb := φ.b0 L10
          obtain ⟨B3, c3, e8, o8⟩ := φ.s8 (by simp [hpre]) L10
          subst e8
          have hk := hK [u37, u38, u39, u40, u41, u42, u43, u44, (.slice B3 m c3), (.slice (some ⟨wz.heap.size, 0, none⟩) 1 1), u47, u48] (wz.alloc (.cells #[.slice B3 m c3] 40)) ⟨_, _, _, _, _, _, _, _, _, _, _, _, (wz.alloc (.cells #[.slice B3 m c3] 40)), rfl,
            { b := φ.b.alloc (Nat.le_trans hbase hb.size) _,
              s0 := fun h0 => φ.s0 (by simpa using h0),
              s1 := fun h0 => φ.s1 (by simpa using h0),
              s2 := fun _ h => by simp [hpre] at h,
              s3 := fun h0 => φ.s3 (by simpa using h0),
              s4 := fun h0 => φ.s4 (by simpa using h0),
              s5 := fun h0 => φ.s5 (by simpa using h0),
              s6 := fun h0 => φ.s6 (by simpa using h0),
              s7 := fun h0 => φ.s7 (by simpa using h0),
              s8 := fun _ _ => ⟨B3, c3, rfl, o8.alloc _⟩,
              s9 := fun _ _ => ⟨wz.heap.size, rfl, Lay.new wz _ 40⟩,
              s10 := fun h => by simp [L10] at h,
              s11 := fun h0 => φ.s11 (by simpa using h0),
              o0 := fun _ => (φ.o0 L10).below ((Below.refl wz.heap.size wz).alloc (Nat.le_refl _) _),
              b0 := fun _ => hb.alloc hb.size _ }, by simp [hst]⟩
          refine hG ?_
          clear hK φ hG
          revert hk
          go_simp
          first | done | exact fun h => h
        case q10 =>
          rintro L vs w' K ⟨u37, u38, u39, u40, u41, u42, u43, u44, u45, u46, u47, u48, wz, rfl, φ, rfl⟩ hL hpre hcl hK G hG
          simp [Region.binds, closedFrom] at hpre hcl
          have hst : L 12 = false := by
            cases h : L 12 with
            | false => rfl
            | true => simp [h, hL] at hcl
          simp only [hst, Bool.false_eq_true, if_false] at hK hG
          have e1 := φ.s1 (by simp [hpre])
          subst e1
          have hb := φ.b0 hL
          obtain ⟨B3, c3, e8, o8⟩ := φ.s8 (by simp [hpre]) hL
          subst e8
          obtain ⟨X, e9, lay⟩ := φ.s9 (by simp [hpre]) hL
          subst e9
          have oo := φ.o0 hL
          refine hG (step_append_own wz rfl (.tmp 38) (.tmp 46) 24 rfl base 40 j0 _ 1 24 Try.underlying24 hj0 hy0 hy1 hy2 rfl (by decide) (.slice B i d) i _ (by simp [Act.eval, Act.puts, Act.put]) oo.outer ⟨X, 0, none⟩ 1 1 [.slice B3 m c3] (by simp [Act.eval, Act.puts, Act.put]) rfl lay (by intro u hu; simp at hu; subst hu; rfl) (by unfold maxLen; omega) (by omega) (Nat.le_trans hbase hb.size) ?_)
          intro v' w9 ownN hgrow hat
          obtain ⟨B', c', rfl⟩ := own_shape ownN
          have hN := oo.push2 (own_weaken' o8 hbase) hm (fun j hj => apart_new (own0.inner j hj).2 o8 (Nat.le_refl _)) ownN hgrow
          rw [← hTK] at hN
          have b9s : Below base wz w9 := below_append (Below.refl base wz) hgrow (Nat.le_trans hbase hb.size) oo.outer (Nat.le_refl _)
          have hk := hK [u37, (.slice B i d), u39, u40, u41, u42, u43, u44, (.slice B3 m c3), (.slice (some ⟨X, 0, none⟩) 1 1), (.slice B' (i + 1) c'), u48] w9 ⟨_, _, _, _, _, _, _, _, _, _, _, _, w9, rfl,
            { b := φ.b.trans b9s,
              s0 := fun h0 => φ.s0 (by simpa using h0),
              s1 := fun h0 => φ.s1 (by simpa using h0),
              s2 := fun _ h => by simp [hpre] at h,
              s3 := fun h0 => φ.s3 (by simpa using h0),
              s4 := fun h0 => φ.s4 (by simpa using h0),
              s5 := fun h0 => φ.s5 (by simpa using h0),
              s6 := fun h0 => φ.s6 (by simpa using h0),
              s7 := fun h0 => φ.s7 (by simpa using h0),
              s8 := fun _ h => by simp at h,
              s9 := fun _ h => by simp at h,
              s10 := fun _ => ⟨B', c', _, rfl, hN⟩,
              s11 := fun h0 => φ.s11 (by simpa using h0),
              o0 := fun h => by simp at h,
              b0 := fun h => by simp at h }, by simp [hst]⟩
          clear hK φ hG
          revert hk
          go_simp
          first | done | exact fun h => h
        case q11 =>
          rintro L vs w' K ⟨u37, u38, u39, u40, u41, u42, u43, u44, u45, u46, u47, u48, wz, rfl, φ, rfl⟩ hL hpre hcl hK G hG
          simp [Region.binds, closedFrom] at hpre hcl
          have hst : L 12 = false := by
            cases h : L 12 with
            | false => rfl
            | true => simp [h, hL] at hcl
          simp only [hst, Bool.false_eq_true, if_false] at hK hG
          have hk := hK [u37, u38, u39, u40, u41, u42, u43, u44, u45, u46, u47, (.pointer (some ⟨MX, 3, none⟩))] wz ⟨_, _, _, _, _, _, _, _, _, _, _, _, wz, rfl,
            { b := φ.b,
              s0 := fun h0 => φ.s0 (by simpa using h0),
              s1 := fun h0 => φ.s1 (by simpa using h0),
              s2 := fun h0 h1 => φ.s2 (by simpa using h0) (by simpa using h1),
              s3 := fun h0 => φ.s3 (by simpa using h0),
              s4 := fun h0 => φ.s4 (by simpa using h0),
              s5 := fun h0 => φ.s5 (by simpa using h0),
              s6 := fun h0 => φ.s6 (by simpa using h0),
              s7 := fun h0 => φ.s7 (by simpa using h0),
              s8 := fun h0 h1 => φ.s8 (by simpa using h0) (by simpa using h1),
              s9 := fun h0 h1 => φ.s9 (by simpa using h0) (by simpa using h1),
              s10 := fun h0 => φ.s10 (by simpa using h0),
              s11 := fun _ => rfl,
              o0 := fun h0 => φ.o0 (by simpa using h0),
              b0 := fun h0 => φ.b0 (by simpa using h0) }, by simp [hst]⟩
          refine hG ?_
          clear hK φ hG
          revert hk
          go_simp
          first | done | exact fun h => h
        case q12 =>
          rintro L vs w' K ⟨u37, u38, u39, u40, u41, u42, u43, u44, u45, u46, u47, u48, wz, rfl, φ, rfl⟩ hL hpre hcl hK G hG
          simp [Region.binds, closedFrom] at hpre hcl
          simp only [hL, Bool.false_eq_true, if_false] at hK hG
          obtain ⟨B', c', hs3, e10, o10⟩ := φ.s10 (by simp [hpre])
          subst e10
          have e11 := φ.s11 (by simp [hpre])
          subst e11
          have ch := (φ.b.cell (p := ⟨MX, 3, none⟩) hMb).trans m3
          have cf := (φ.b.frozen (p := ⟨MX, 3, none⟩) hMb).trans fm3
          have hk := hK [u37, u38, u39, u40, u41, u42, u43, u44, u45, u46, (.slice B' (i + 1) c'), (.pointer (some ⟨MX, 3, none⟩))] _ ⟨_, _, _, _, _, _, _, _, _, _, _, _, wz, rfl,
            { b := φ.b,
              s0 := fun h0 => φ.s0 (by simpa using h0),
              s1 := fun h0 => φ.s1 (by simpa using h0),
              s2 := fun h0 h1 => φ.s2 (by simpa using h0) (by simpa using h1),
              s3 := fun h0 => φ.s3 (by simpa using h0),
              s4 := fun h0 => φ.s4 (by simpa using h0),
              s5 := fun h0 => φ.s5 (by simpa using h0),
              s6 := fun h0 => φ.s6 (by simpa using h0),
              s7 := fun h0 => φ.s7 (by simpa using h0),
              s8 := fun h0 h1 => φ.s8 (by simpa using h0) (by simpa using h1),
              s9 := fun h0 h1 => φ.s9 (by simpa using h0) (by simpa using h1),
              s10 := fun _ => ⟨B', c', hs3, rfl, o10⟩,
              s11 := fun h0 => φ.s11 (by simpa using h0),
              o0 := fun h0 => φ.o0 (by simpa using h0),
              b0 := fun h0 => φ.b0 (by simpa using h0) }, rfl⟩
          refine hG ?_
          clear hK φ hG
          revert hk
          go_simp
          first | done | exact fun h => h
        case hend =>
          rintro vs w' ⟨u37, u38, u39, u40, u41, u42, u43, u44, u45, u46, u47, u48, wz, rfl, φ, rfl⟩ G hG
          obtain ⟨B', c', hs3, e10, o10⟩ := φ.s10 rfl
          have b9 := φ.b
          clear φ
          subst e10
          have hst : decide (12 < 13) = true := rfl
          simp only [List.size_toArray, List.length_cons, List.length_nil, Nat.zero_add, Nat.reduceAdd, hst, if_true] at hG
          refine hG ?_
          clear hG
          have ownN := o10.set hMb 3 (.slice B' (i + 1) c')
          have M2 := Lib.hid (((HM.out.below (Below.refl _ _).drew).belowB hMb b9 (Nat.le_trans hbase b9.size)).set 3 (.slice B' (i + 1) c') (by simp))
          have B2' := Lib.hid ((HB.out.drew.trans (b9.mono hb2m)).setCell (p := ⟨MX, 3, none⟩) hMX2 (.slice B' (i + 1) c'))
          have S2 : base ≤ (wz.setCell ⟨MX, 3, none⟩ (.slice B' (i + 1) c')).heap.size := by simp; exact Nat.le_trans hbase b9.size
          clear o10 b9 own0 m3 fm3 x3 hcell hsl
          go_simp
          go_wp2_with fail
          go_roundg (n - (i + 1))
          case measure => omega
          case rel => exact ⟨i + 1, B', c', hs3, by omega, by omega, by first | rfl | go_num, ownN, (show Aside _ from M2.out), (show Aside _ from B2'.out), (show Aside _ from S2)⟩
      · obtain rfl : i = n := by omega
        have hltz : ¬ (i : Int) < (i : Int) := by omega
        have hall : x.lines.take i = x.lines := List.take_of_length_le (by rw [HN.out]; exact Nat.le_refl _)
        rw [hall] at own
        obtain ⟨W3, rfl⟩ : ∃ W3, W3 = wr := ⟨_, rfl⟩
        have bZ : Below w.heap.size w W3 := bF
        have hWw : w.heap.size ≤ W3.heap.size := bF.size
        have MV : CV (fun g => g < W3.heap.size) W3 MX x B i d hs2 := ⟨HM.out, own.weaken (Nat.zero_le _), fun g e => (own.outer.lt g e).2, fun j hj g e => ((own.inner j hj).2.lt g e).2⟩
        have XV := X.below HB.out
        have hMW : MX < W3.heap.size := HM.out.lt
        have hCW : CX < W3.heap.size := XV.lt
        have hnC : CX < MX := by have := HCX.out; have := HMX.out; omega
        obtain ⟨ws, hws⟩ : ∃ ws, W3.heap.size = ws := ⟨_, rfl⟩
        rw [hws] at hMW hCW
        simp only [hws] at MV
        have HWS := Lib.hid hws
        obtain ⟨ln, ok, hlk⟩ : ∃ ln ok, lookC x t = (ln, ok) := ⟨_, _, rfl⟩
        have cK := look_any B d i x hs2 t W3 MV.cin HN.out HWF.out
        have cK2 := fun wz (h : CIn wz A x.lines hs) => rLook_any A c i x hs t wz h HN.out
        simp only [hlk] at cK cK2
        clear hall own bF HM HB HBS X hlt hgi hin hlk hws hXl hsz2
        have m0 := MV.V.cell 0 _ rfl
        have m1 := MV.V.cell 1 _ rfl
        have m2 := MV.V.cell 2 _ rfl
        have m3 := MV.V.cell 3 _ rfl
        have x3r := x3
        go_wp2_with fail
        refine cK.mono ?_
        rintro e w5 ⟨rfl, hb5⟩
        have hLX : ws ≤ w5.heap.size := by rw [← HWS.out]; exact hb5.size
        have LB := Bx.new w5 [.int .i64 ln.addr, .int .i64 ln.state, .int .u32 ln.val_, .int .i64 ln.used] 32
        replace MV := (MV.below hb5).alloc (.cells #[.int .i64 ln.addr, .int .i64 ln.state, .int .u32 ln.val_, .int .i64 ln.used] 32)
        replace XV := (XV.below hb5).alloc (.cells #[.int .i64 ln.addr, .int .i64 ln.state, .int .u32 ln.val_, .int .i64 ln.used] 32)
        replace bZ := (bZ.trans (hb5.mono bZ.size)).alloc (Nat.le_trans bZ.size hb5.size) (.cells #[.int .i64 ln.addr, .int .i64 ln.state, .int .u32 ln.val_, .int .i64 ln.used] 32)
        have HC5 := HC0.out.below bZ
        clear m0 m1 m2 m3 cK hb5 x3 x3r
        have x0 := XV.cell 0 _ rfl
        have x1 := XV.cell 1 _ rfl
        have x2 := XV.cell 2 _ rfl
        have x3 := XV.cell 3 _ rfl
        go_wp2_with fail
        generalize w5.alloc (.cells #[.int .i64 ln.addr, .int .i64 ln.state, .int .u32 ln.val_, .int .i64 ln.used] 32) = W5 at *
        generalize w5.heap.size = LX at *
        refine (cK2 _ HC5).mono ?_
        rintro e w6 ⟨rfl, hb6⟩
        have hKX : LX < w6.heap.size := Nat.lt_of_lt_of_le LB.lt hb6.size
        have KB := Bx.new w6 [.int .i64 ln.addr, .int .i64 ln.state, .int .u32 ln.val_, .int .i64 ln.used] 32
        replace LB := (LB.below hb6).alloc (.cells #[.int .i64 ln.addr, .int .i64 ln.state, .int .u32 ln.val_, .int .i64 ln.used] 32)
        replace MV := (MV.below hb6).alloc (.cells #[.int .i64 ln.addr, .int .i64 ln.state, .int .u32 ln.val_, .int .i64 ln.used] 32)
        replace XV := (XV.below hb6).alloc (.cells #[.int .i64 ln.addr, .int .i64 ln.state, .int .u32 ln.val_, .int .i64 ln.used] 32)
        replace bZ := (bZ.trans (hb6.mono bZ.size)).alloc (Nat.le_trans bZ.size hb6.size) (.cells #[.int .i64 ln.addr, .int .i64 ln.state, .int .u32 ln.val_, .int .i64 ln.used] 32)
        clear x0 x1 x2 x3 cK2 hb6 HC5
        go_wp2_with fail
        generalize w6.alloc (.cells #[.int .i64 ln.addr, .int .i64 ln.state, .int .u32 ln.val_, .int .i64 ln.used] 32) = W6 at *
        generalize w6.heap.size = KX at *
        replace LB := LB.below (Below.refl _ _).drew
        replace KB := KB.below (Below.refl _ _).drew
        replace MV := MV.below (Below.refl _ _).drew
        replace XV := XV.below (Below.refl _ _).drew
        replace bZ := bZ.drew
        have HC6 := HC0.out.below bZ
        have cA := fun wz (hb : Below W6.drew.heap.size W6.drew wz) => all_any B d i x hs2 wz (MV.cin.below hb) HN.out HWF.out
        have cB := fun wz (hb : Below W6.drew.heap.size W6.drew wz) => rAll_any A c i x hs wz (HC6.below hb) HN.out
        have x0 := XV.cell 0 _ rfl
        have x1 := XV.cell 1 _ rfl
        have x2 := XV.cell 2 _ rfl
        have x3 := XV.cell 3 _ rfl
        have m0 := MV.V.cell 0 _ rfl
        have m1 := MV.V.cell 1 _ rfl
        have m2 := MV.V.cell 2 _ rfl
        have m3 := MV.V.cell 3 _ rfl
        have l0 := LB.cell 0 _ rfl
        have l1 := LB.cell 1 _ rfl
        have l2 := LB.cell 2 _ rfl
        have l3 := LB.cell 3 _ rfl
        have k0 := KB.cell 0 _ rfl
        have k1 := KB.cell 1 _ rfl
        have k2 := KB.cell 2 _ rfl
        have k3 := KB.cell 3 _ rfl
        refine wp_region_rg (by kernel_rfl) (by kernel_rfl) [61, 62, 63, 64, 65, 66, 67, 68, 69, 70, 71, 72, 73, 74, 75, 76] (LaAPhi W6.drew CX MX LX KX i c d A B x ln ok) ?h0 ⟨?q0, ?q1, ?q2, ?q3, ?q4, ?q5, ?q6, ?q7, ?q8, ?q9, ?q10, ?q11, ?q12, ?q13, ?q14, ?q15, trivial⟩ ?hend
        case h0 => exact ⟨_, _, _, _, _, _, _, _, _, _, _, _, _, _, _, _, _, rfl, ⟨Below.refl _ _, (fun h => by cases h), (fun h => by cases h), (fun h => by cases h), (fun h => by cases h), (fun h => by cases h), (fun h => by cases h), (fun h => by cases h), (fun h => by cases h), (fun h => by cases h), (fun h => by cases h), (fun h => by cases h), (fun h => by cases h), (fun h => by cases h), (fun h => by cases h), (fun h => by cases h), (fun h => by cases h)⟩, rfl⟩
        case q0 =>
          rintro L vs w' K ⟨u61, u62, u63, u64, u65, u66, u67, u68, u69, u70, u71, u72, u73, u74, u75, u76, wz, rfl, φ, rfl⟩ hL hpre hcl hK G hG
          simp [Region.binds, closedFrom] at hpre hcl
          have ce0 := (φ.b.cell (p := ⟨LX, 0, none⟩) (World.block_lt_of_cell? _ _ l0)).trans l0
          have ce1 := (φ.b.cell (p := ⟨LX, 1, none⟩) (World.block_lt_of_cell? _ _ l1)).trans l1
          have ce2 := (φ.b.cell (p := ⟨LX, 2, none⟩) (World.block_lt_of_cell? _ _ l2)).trans l2
          have ce3 := (φ.b.cell (p := ⟨LX, 3, none⟩) (World.block_lt_of_cell? _ _ l3)).trans l3
          have hk := hK [(.agg #[.int .i64 ln.addr, .int .i64 ln.state, .int .u32 ln.val_, .int .i64 ln.used]), u62, u63, u64, u65, u66, u67, u68, u69, u70, u71, u72, u73, u74, u75, u76] wz ⟨_, _, _, _, _, _, _, _, _, _, _, _, _, _, _, _, wz, rfl,
            { b := φ.b,
              s0 := fun _ => rfl,
              s1 := fun h0 => φ.s1 (by simpa using h0),
              s2 := fun h0 => φ.s2 (by simpa using h0),
              s3 := fun h0 => φ.s3 (by simpa using h0),
              s4 := fun h0 => φ.s4 (by simpa using h0),
              s5 := fun h0 => φ.s5 (by simpa using h0),
              s6 := fun h0 => φ.s6 (by simpa using h0),
              s7 := fun h0 => φ.s7 (by simpa using h0),
              s8 := fun h0 => φ.s8 (by simpa using h0),
              s9 := fun h0 => φ.s9 (by simpa using h0),
              e10 := fun h0 => φ.e10 (by simpa using h0),
              s11 := fun h0 => φ.s11 (by simpa using h0),
              e12 := fun h0 => φ.e12 (by simpa using h0),
              s13 := fun h0 => φ.s13 (by simpa using h0),
              s14 := fun h0 => φ.s14 (by simpa using h0),
              s15 := fun h0 => φ.s15 (by simpa using h0) }, rfl⟩
          refine hG ?_
          clear hK φ hG
          revert hk
          go_simp
          first | done | exact fun h => h
        case q1 =>
          rintro L vs w' K ⟨u61, u62, u63, u64, u65, u66, u67, u68, u69, u70, u71, u72, u73, u74, u75, u76, wz, rfl, φ, rfl⟩ hL hpre hcl hK G hG
          simp [Region.binds, closedFrom] at hpre hcl
          have ce0 := (φ.b.cell (p := ⟨KX, 0, none⟩) (World.block_lt_of_cell? _ _ k0)).trans k0
          have ce1 := (φ.b.cell (p := ⟨KX, 1, none⟩) (World.block_lt_of_cell? _ _ k1)).trans k1
          have ce2 := (φ.b.cell (p := ⟨KX, 2, none⟩) (World.block_lt_of_cell? _ _ k2)).trans k2
          have ce3 := (φ.b.cell (p := ⟨KX, 3, none⟩) (World.block_lt_of_cell? _ _ k3)).trans k3
          have hk := hK [u61, (.agg #[.int .i64 ln.addr, .int .i64 ln.state, .int .u32 ln.val_, .int .i64 ln.used]), u63, u64, u65, u66, u67, u68, u69, u70, u71, u72, u73, u74, u75, u76] wz ⟨_, _, _, _, _, _, _, _, _, _, _, _, _, _, _, _, wz, rfl,
            { b := φ.b,
              s0 := fun h0 => φ.s0 (by simpa using h0),
              s1 := fun _ => rfl,
              s2 := fun h0 => φ.s2 (by simpa using h0),
              s3 := fun h0 => φ.s3 (by simpa using h0),
              s4 := fun h0 => φ.s4 (by simpa using h0),
              s5 := fun h0 => φ.s5 (by simpa using h0),
              s6 := fun h0 => φ.s6 (by simpa using h0),
              s7 := fun h0 => φ.s7 (by simpa using h0),
              s8 := fun h0 => φ.s8 (by simpa using h0),
              s9 := fun h0 => φ.s9 (by simpa using h0),
              e10 := fun h0 => φ.e10 (by simpa using h0),
              s11 := fun h0 => φ.s11 (by simpa using h0),
              e12 := fun h0 => φ.e12 (by simpa using h0),
              s13 := fun h0 => φ.s13 (by simpa using h0),
              s14 := fun h0 => φ.s14 (by simpa using h0),
              s15 := fun h0 => φ.s15 (by simpa using h0) }, rfl⟩
          refine hG ?_
          clear hK φ hG
          revert hk
          go_simp
          first | done | exact fun h => h
        case q2 =>
          rintro L vs w' K ⟨u61, u62, u63, u64, u65, u66, u67, u68, u69, u70, u71, u72, u73, u74, u75, u76, wz, rfl, φ, rfl⟩ hL hpre hcl hK G hG
          simp [Region.binds, closedFrom] at hpre hcl
          have e0 := φ.s0 (by simp [hpre])
          subst e0
          have e1 := φ.s1 (by simp [hpre])
          subst e1
          have hk := hK [(.agg #[.int .i64 ln.addr, .int .i64 ln.state, .int .u32 ln.val_, .int .i64 ln.used]), (.agg #[.int .i64 ln.addr, .int .i64 ln.state, .int .u32 ln.val_, .int .i64 ln.used]), (.bool false), u64, u65, u66, u67, u68, u69, u70, u71, u72, u73, u74, u75, u76] wz ⟨_, _, _, _, _, _, _, _, _, _, _, _, _, _, _, _, wz, rfl,
            { b := φ.b,
              s0 := fun h0 => φ.s0 (by simpa using h0),
              s1 := fun h0 => φ.s1 (by simpa using h0),
              s2 := fun _ => rfl,
              s3 := fun h0 => φ.s3 (by simpa using h0),
              s4 := fun h0 => φ.s4 (by simpa using h0),
              s5 := fun h0 => φ.s5 (by simpa using h0),
              s6 := fun h0 => φ.s6 (by simpa using h0),
              s7 := fun h0 => φ.s7 (by simpa using h0),
              s8 := fun h0 => φ.s8 (by simpa using h0),
              s9 := fun h0 => φ.s9 (by simpa using h0),
              e10 := fun h0 => φ.e10 (by simpa using h0),
              s11 := fun h0 => φ.s11 (by simpa using h0),
              e12 := fun h0 => φ.e12 (by simpa using h0),
              s13 := fun h0 => φ.s13 (by simpa using h0),
              s14 := fun h0 => φ.s14 (by simpa using h0),
              s15 := fun h0 => φ.s15 (by simpa using h0) }, rfl⟩
          refine hG ?_
          clear hK φ hG
          revert hk
          go_simp
          first | done | exact fun h => h
        case q3 =>
          rintro L vs w' K ⟨u61, u62, u63, u64, u65, u66, u67, u68, u69, u70, u71, u72, u73, u74, u75, u76, wz, rfl, φ, rfl⟩ hL hpre hcl hK G hG
          simp [Region.binds, closedFrom] at hpre hcl
          have e2 := φ.s2 (by simp [hpre])
          subst e2
          have hk := hK [u61, u62, (.bool false), (.bool false), u65, u66, u67, u68, u69, u70, u71, u72, u73, u74, u75, u76] wz ⟨_, _, _, _, _, _, _, _, _, _, _, _, _, _, _, _, wz, rfl,
            { b := φ.b,
              s0 := fun h0 => φ.s0 (by simpa using h0),
              s1 := fun h0 => φ.s1 (by simpa using h0),
              s2 := fun h0 => φ.s2 (by simpa using h0),
              s3 := fun _ => rfl,
              s4 := fun h0 => φ.s4 (by simpa using h0),
              s5 := fun h0 => φ.s5 (by simpa using h0),
              s6 := fun h0 => φ.s6 (by simpa using h0),
              s7 := fun h0 => φ.s7 (by simpa using h0),
              s8 := fun h0 => φ.s8 (by simpa using h0),
              s9 := fun h0 => φ.s9 (by simpa using h0),
              e10 := fun h0 => φ.e10 (by simpa using h0),
              s11 := fun h0 => φ.s11 (by simpa using h0),
              e12 := fun h0 => φ.e12 (by simpa using h0),
              s13 := fun h0 => φ.s13 (by simpa using h0),
              s14 := fun h0 => φ.s14 (by simpa using h0),
              s15 := fun h0 => φ.s15 (by simpa using h0) }, rfl⟩
          refine hG ?_
          clear hK φ hG
          revert hk
          go_simp
          first | done | exact fun h => h
        case q4 =>
          rintro L vs w' K ⟨u61, u62, u63, u64, u65, u66, u67, u68, u69, u70, u71, u72, u73, u74, u75, u76, wz, rfl, φ, rfl⟩ hL hpre hcl hK G hG
          simp [Region.binds, closedFrom] at hpre hcl
          have e3 := φ.s3 (by simp [hpre])
          subst e3
          have hk := hK [u61, u62, u63, (.bool false), (.bool ok), u66, u67, u68, u69, u70, u71, u72, u73, u74, u75, u76] wz ⟨_, _, _, _, _, _, _, _, _, _, _, _, _, _, _, _, wz, rfl,
            { b := φ.b,
              s0 := fun h0 => φ.s0 (by simpa using h0),
              s1 := fun h0 => φ.s1 (by simpa using h0),
              s2 := fun h0 => φ.s2 (by simpa using h0),
              s3 := fun h0 => φ.s3 (by simpa using h0),
              s4 := fun _ => rfl,
              s5 := fun h0 => φ.s5 (by simpa using h0),
              s6 := fun h0 => φ.s6 (by simpa using h0),
              s7 := fun h0 => φ.s7 (by simpa using h0),
              s8 := fun h0 => φ.s8 (by simpa using h0),
              s9 := fun h0 => φ.s9 (by simpa using h0),
              e10 := fun h0 => φ.e10 (by simpa using h0),
              s11 := fun h0 => φ.s11 (by simpa using h0),
              e12 := fun h0 => φ.e12 (by simpa using h0),
              s13 := fun h0 => φ.s13 (by simpa using h0),
              s14 := fun h0 => φ.s14 (by simpa using h0),
              s15 := fun h0 => φ.s15 (by simpa using h0) }, rfl⟩
          refine hG ?_
          clear hK φ hG
          revert hk
          simp only [yielded, Region.wanted]
          go_simp
          first | done | exact fun h => h
        case q5 =>
          rintro L vs w' K ⟨u61, u62, u63, u64, u65, u66, u67, u68, u69, u70, u71, u72, u73, u74, u75, u76, wz, rfl, φ, rfl⟩ hL hpre hcl hK G hG
          simp [Region.binds, closedFrom] at hpre hcl
          have e3 := φ.s3 (by simp [hpre])
          subst e3
          have hk := hK [u61, u62, u63, (.bool false), u65, (.bool ok), u67, u68, u69, u70, u71, u72, u73, u74, u75, u76] wz ⟨_, _, _, _, _, _, _, _, _, _, _, _, _, _, _, _, wz, rfl,
            { b := φ.b,
              s0 := fun h0 => φ.s0 (by simpa using h0),
              s1 := fun h0 => φ.s1 (by simpa using h0),
              s2 := fun h0 => φ.s2 (by simpa using h0),
              s3 := fun h0 => φ.s3 (by simpa using h0),
              s4 := fun h0 => φ.s4 (by simpa using h0),
              s5 := fun _ => rfl,
              s6 := fun h0 => φ.s6 (by simpa using h0),
              s7 := fun h0 => φ.s7 (by simpa using h0),
              s8 := fun h0 => φ.s8 (by simpa using h0),
              s9 := fun h0 => φ.s9 (by simpa using h0),
              e10 := fun h0 => φ.e10 (by simpa using h0),
              s11 := fun h0 => φ.s11 (by simpa using h0),
              e12 := fun h0 => φ.e12 (by simpa using h0),
              s13 := fun h0 => φ.s13 (by simpa using h0),
              s14 := fun h0 => φ.s14 (by simpa using h0),
              s15 := fun h0 => φ.s15 (by simpa using h0) }, rfl⟩
          refine hG ?_
          clear hK φ hG
          revert hk
          simp only [yielded, Region.wanted]
          go_simp
          first | done | exact fun h => h
        case q6 =>
          rintro L vs w' K ⟨u61, u62, u63, u64, u65, u66, u67, u68, u69, u70, u71, u72, u73, u74, u75, u76, wz, rfl, φ, rfl⟩ hL hpre hcl hK G hG
          simp [Region.binds, closedFrom] at hpre hcl
          have e3 := φ.s3 (by simp [hpre])
          subst e3
          have e4 := φ.s4 (by simp [hpre])
          subst e4
          have e5 := φ.s5 (by simp [hpre])
          subst e5
          have hk := hK [u61, u62, u63, (.bool false), (.bool ok), (.bool ok), (.bool false), u68, u69, u70, u71, u72, u73, u74, u75, u76] wz ⟨_, _, _, _, _, _, _, _, _, _, _, _, _, _, _, _, wz, rfl,
            { b := φ.b,
              s0 := fun h0 => φ.s0 (by simpa using h0),
              s1 := fun h0 => φ.s1 (by simpa using h0),
              s2 := fun h0 => φ.s2 (by simpa using h0),
              s3 := fun h0 => φ.s3 (by simpa using h0),
              s4 := fun h0 => φ.s4 (by simpa using h0),
              s5 := fun h0 => φ.s5 (by simpa using h0),
              s6 := fun _ => rfl,
              s7 := fun h0 => φ.s7 (by simpa using h0),
              s8 := fun h0 => φ.s8 (by simpa using h0),
              s9 := fun h0 => φ.s9 (by simpa using h0),
              e10 := fun h0 => φ.e10 (by simpa using h0),
              s11 := fun h0 => φ.s11 (by simpa using h0),
              e12 := fun h0 => φ.e12 (by simpa using h0),
              s13 := fun h0 => φ.s13 (by simpa using h0),
              s14 := fun h0 => φ.s14 (by simpa using h0),
              s15 := fun h0 => φ.s15 (by simpa using h0) }, rfl⟩
          refine hG ?_
          clear hK φ hG
          revert hk
          simp only [yielded, Region.wanted]
          go_simp
          first | done | exact fun h => h
        case q7 =>
          rintro L vs w' K ⟨u61, u62, u63, u64, u65, u66, u67, u68, u69, u70, u71, u72, u73, u74, u75, u76, wz, rfl, φ, rfl⟩ hL hpre hcl hK G hG
          simp [Region.binds, closedFrom] at hpre hcl
          have e3 := φ.s3 (by simp [hpre])
          subst e3
          have e6 := φ.s6 (by simp [hpre])
          subst e6
          have hk := hK [u61, u62, u63, (.bool false), u65, u66, (.bool false), (.bool false), u69, u70, u71, u72, u73, u74, u75, u76] wz ⟨_, _, _, _, _, _, _, _, _, _, _, _, _, _, _, _, wz, rfl,
            { b := φ.b,
              s0 := fun h0 => φ.s0 (by simpa using h0),
              s1 := fun h0 => φ.s1 (by simpa using h0),
              s2 := fun h0 => φ.s2 (by simpa using h0),
              s3 := fun h0 => φ.s3 (by simpa using h0),
              s4 := fun h0 => φ.s4 (by simpa using h0),
              s5 := fun h0 => φ.s5 (by simpa using h0),
              s6 := fun h0 => φ.s6 (by simpa using h0),
              s7 := fun _ => rfl,
              s8 := fun h0 => φ.s8 (by simpa using h0),
              s9 := fun h0 => φ.s9 (by simpa using h0),
              e10 := fun h0 => φ.e10 (by simpa using h0),
              s11 := fun h0 => φ.s11 (by simpa using h0),
              e12 := fun h0 => φ.e12 (by simpa using h0),
              s13 := fun h0 => φ.s13 (by simpa using h0),
              s14 := fun h0 => φ.s14 (by simpa using h0),
              s15 := fun h0 => φ.s15 (by simpa using h0) }, rfl⟩
          refine hG ?_
          clear hK φ hG
          revert hk
          go_simp
          first | done | exact fun h => h
        case q8 =>
          rintro L vs w' K ⟨u61, u62, u63, u64, u65, u66, u67, u68, u69, u70, u71, u72, u73, u74, u75, u76, wz, rfl, φ, rfl⟩ hL hpre hcl hK G hG
          simp [Region.binds, closedFrom] at hpre hcl
          have e7 := φ.s7 (by simp [hpre])
          subst e7
          have hk := hK [u61, u62, u63, u64, u65, u66, u67, (.bool false), (.bool false), u70, u71, u72, u73, u74, u75, u76] wz ⟨_, _, _, _, _, _, _, _, _, _, _, _, _, _, _, _, wz, rfl,
            { b := φ.b,
              s0 := fun h0 => φ.s0 (by simpa using h0),
              s1 := fun h0 => φ.s1 (by simpa using h0),
              s2 := fun h0 => φ.s2 (by simpa using h0),
              s3 := fun h0 => φ.s3 (by simpa using h0),
              s4 := fun h0 => φ.s4 (by simpa using h0),
              s5 := fun h0 => φ.s5 (by simpa using h0),
              s6 := fun h0 => φ.s6 (by simpa using h0),
              s7 := fun h0 => φ.s7 (by simpa using h0),
              s8 := fun _ => rfl,
              s9 := fun h0 => φ.s9 (by simpa using h0),
              e10 := fun h0 => φ.e10 (by simpa using h0),
              s11 := fun h0 => φ.s11 (by simpa using h0),
              e12 := fun h0 => φ.e12 (by simpa using h0),
              s13 := fun h0 => φ.s13 (by simpa using h0),
              s14 := fun h0 => φ.s14 (by simpa using h0),
              s15 := fun h0 => φ.s15 (by simpa using h0) }, rfl⟩
          refine hG ?_
          clear hK φ hG
          revert hk
          go_simp
          first | done | exact fun h => h
        case q9 =>
          rintro L vs w' K ⟨u61, u62, u63, u64, u65, u66, u67, u68, u69, u70, u71, u72, u73, u74, u75, u76, wz, rfl, φ, rfl⟩ hL hpre hcl hK G hG
          simp [Region.binds, closedFrom] at hpre hcl
          have e8 := φ.s8 (by simp [hpre])
          subst e8
          have ce0 := (φ.b.cell (p := ⟨MX, 0, none⟩) (World.block_lt_of_cell? _ _ m0)).trans m0
          have ce1 := (φ.b.cell (p := ⟨MX, 1, none⟩) (World.block_lt_of_cell? _ _ m1)).trans m1
          have ce2 := (φ.b.cell (p := ⟨MX, 2, none⟩) (World.block_lt_of_cell? _ _ m2)).trans m2
          have ce3 := (φ.b.cell (p := ⟨MX, 3, none⟩) (World.block_lt_of_cell? _ _ m3)).trans m3
          have hk := hK [u61, u62, u63, u64, u65, u66, u67, u68, (.bool false), (.agg #[.int .i64 x.sets, .int .i64 x.ways, .int .i64 x.clock, .slice B i d]), u71, u72, u73, u74, u75, u76] wz ⟨_, _, _, _, _, _, _, _, _, _, _, _, _, _, _, _, wz, rfl,
            { b := φ.b,
              s0 := fun h0 => φ.s0 (by simpa using h0),
              s1 := fun h0 => φ.s1 (by simpa using h0),
              s2 := fun h0 => φ.s2 (by simpa using h0),
              s3 := fun h0 => φ.s3 (by simpa using h0),
              s4 := fun h0 => φ.s4 (by simpa using h0),
              s5 := fun h0 => φ.s5 (by simpa using h0),
              s6 := fun h0 => φ.s6 (by simpa using h0),
              s7 := fun h0 => φ.s7 (by simpa using h0),
              s8 := fun h0 => φ.s8 (by simpa using h0),
              s9 := fun _ => rfl,
              e10 := fun h0 => φ.e10 (by simpa using h0),
              s11 := fun h0 => φ.s11 (by simpa using h0),
              e12 := fun h0 => φ.e12 (by simpa using h0),
              s13 := fun h0 => φ.s13 (by simpa using h0),
              s14 := fun h0 => φ.s14 (by simpa using h0),
              s15 := fun h0 => φ.s15 (by simpa using h0) }, rfl⟩
          refine hG ?_
          clear hK φ hG
          revert hk
          simp only [yielded, Region.wanted]
          go_simp
          first | done | exact fun h => h
        case q10 =>
          rintro L vs w' K ⟨u61, u62, u63, u64, u65, u66, u67, u68, u69, u70, u71, u72, u73, u74, u75, u76, wz, rfl, φ, rfl⟩ hL hpre hcl hK G hG
          simp [Region.binds, closedFrom] at hpre hcl
          have e8 := φ.s8 (by simp [hpre])
          subst e8
          have e9 := φ.s9 (by simp [hpre])
          subst e9
          refine step_callg hG wz (by simp only [yielded, Region.wanted]; go_simp) 13 #[.tmp 70] #[26] rfl #[.agg #[.int .i64 x.sets, .int .i64 x.ways, .int .i64 x.clock, .slice B i d]] (by simp [Act.eval, Act.puts, Act.put]) (enters_of Try.func13 (by kernel_rfl) rfl) (show Calls Try.prog 13 _ wz (AllL wz x) from cA wz φ.b) ?_
          rintro e w9 ⟨q1, q2, q3, q4, rfl, q5, q6, q7, q8, hb9⟩
          refine ⟨_, rfl, ?_⟩
          have hk := hK [u61, u62, u63, u64, u65, u66, u67, u68, (.bool false), (.agg #[.int .i64 x.sets, .int .i64 x.ways, .int .i64 x.clock, .slice B i d]), (.slice q1 q2 q3), u72, u73, u74, u75, u76] w9 ⟨_, _, _, _, _, _, _, _, _, _, _, _, _, _, _, _, w9, rfl,
            { b := φ.b.trans (hb9.mono φ.b.size),
              s0 := fun h0 => φ.s0 (by simpa using h0),
              s1 := fun h0 => φ.s1 (by simpa using h0),
              s2 := fun h0 => φ.s2 (by simpa using h0),
              s3 := fun h0 => φ.s3 (by simpa using h0),
              s4 := fun h0 => φ.s4 (by simpa using h0),
              s5 := fun h0 => φ.s5 (by simpa using h0),
              s6 := fun h0 => φ.s6 (by simpa using h0),
              s7 := fun h0 => φ.s7 (by simpa using h0),
              s8 := fun h0 => φ.s8 (by simpa using h0),
              s9 := fun h0 => φ.s9 (by simpa using h0),
              e10 := fun _ => ⟨q1, q2, q3, q4, rfl, q5, q6, q7, q8⟩,
              s11 := fun h0 => φ.s11 (by simpa using h0),
              e12 := fun h => (φ.e12 (by simpa using h)).below hb9,
              s13 := fun h0 => φ.s13 (by simpa using h0),
              s14 := fun h0 => φ.s14 (by simpa using h0),
              s15 := fun h0 => φ.s15 (by simpa using h0) }, rfl⟩
          clear hK φ hG
          revert hk
          go_simp
          first | done | exact fun h => h
        case q11 =>
          rintro L vs w' K ⟨u61, u62, u63, u64, u65, u66, u67, u68, u69, u70, u71, u72, u73, u74, u75, u76, wz, rfl, φ, rfl⟩ hL hpre hcl hK G hG
          simp [Region.binds, closedFrom] at hpre hcl
          have e8 := φ.s8 (by simp [hpre])
          subst e8
          have ce0 := (φ.b.cell (p := ⟨CX, 0, none⟩) (World.block_lt_of_cell? _ _ x0)).trans x0
          have ce1 := (φ.b.cell (p := ⟨CX, 1, none⟩) (World.block_lt_of_cell? _ _ x1)).trans x1
          have ce2 := (φ.b.cell (p := ⟨CX, 2, none⟩) (World.block_lt_of_cell? _ _ x2)).trans x2
          have ce3 := (φ.b.cell (p := ⟨CX, 3, none⟩) (World.block_lt_of_cell? _ _ x3)).trans x3
          have hk := hK [u61, u62, u63, u64, u65, u66, u67, u68, (.bool false), u70, u71, (.agg #[.int .i64 x.sets, .int .i64 x.ways, .int .i64 x.clock, .slice A i c]), u73, u74, u75, u76] wz ⟨_, _, _, _, _, _, _, _, _, _, _, _, _, _, _, _, wz, rfl,
            { b := φ.b,
              s0 := fun h0 => φ.s0 (by simpa using h0),
              s1 := fun h0 => φ.s1 (by simpa using h0),
              s2 := fun h0 => φ.s2 (by simpa using h0),
              s3 := fun h0 => φ.s3 (by simpa using h0),
              s4 := fun h0 => φ.s4 (by simpa using h0),
              s5 := fun h0 => φ.s5 (by simpa using h0),
              s6 := fun h0 => φ.s6 (by simpa using h0),
              s7 := fun h0 => φ.s7 (by simpa using h0),
              s8 := fun h0 => φ.s8 (by simpa using h0),
              s9 := fun h0 => φ.s9 (by simpa using h0),
              e10 := fun h0 => φ.e10 (by simpa using h0),
              s11 := fun _ => rfl,
              e12 := fun h0 => φ.e12 (by simpa using h0),
              s13 := fun h0 => φ.s13 (by simpa using h0),
              s14 := fun h0 => φ.s14 (by simpa using h0),
              s15 := fun h0 => φ.s15 (by simpa using h0) }, rfl⟩
          refine hG ?_
          clear hK φ hG
          revert hk
          simp only [yielded, Region.wanted]
          go_simp
          first | done | exact fun h => h
        case q12 =>
          rintro L vs w' K ⟨u61, u62, u63, u64, u65, u66, u67, u68, u69, u70, u71, u72, u73, u74, u75, u76, wz, rfl, φ, rfl⟩ hL hpre hcl hK G hG
          simp [Region.binds, closedFrom] at hpre hcl
          have e8 := φ.s8 (by simp [hpre])
          subst e8
          have e11 := φ.s11 (by simp [hpre])
          subst e11
          refine step_callg hG wz (by simp only [yielded, Region.wanted]; go_simp) 14 #[.tmp 72] #[26] rfl #[.agg #[.int .i64 x.sets, .int .i64 x.ways, .int .i64 x.clock, .slice A i c]] (by simp [Act.eval, Act.puts, Act.put]) (enters_of Try.func14 (by kernel_rfl) rfl) (show Calls Try.prog 14 _ wz (AllL wz x) from cB wz φ.b) ?_
          rintro e w9 ⟨q1, q2, q3, q4, rfl, q5, q6, q7, q8, hb9⟩
          refine ⟨_, rfl, ?_⟩
          have hk := hK [u61, u62, u63, u64, u65, u66, u67, u68, (.bool false), u70, u71, (.agg #[.int .i64 x.sets, .int .i64 x.ways, .int .i64 x.clock, .slice A i c]), (.slice q1 q2 q3), u74, u75, u76] w9 ⟨_, _, _, _, _, _, _, _, _, _, _, _, _, _, _, _, w9, rfl,
            { b := φ.b.trans (hb9.mono φ.b.size),
              s0 := fun h0 => φ.s0 (by simpa using h0),
              s1 := fun h0 => φ.s1 (by simpa using h0),
              s2 := fun h0 => φ.s2 (by simpa using h0),
              s3 := fun h0 => φ.s3 (by simpa using h0),
              s4 := fun h0 => φ.s4 (by simpa using h0),
              s5 := fun h0 => φ.s5 (by simpa using h0),
              s6 := fun h0 => φ.s6 (by simpa using h0),
              s7 := fun h0 => φ.s7 (by simpa using h0),
              s8 := fun h0 => φ.s8 (by simpa using h0),
              s9 := fun h0 => φ.s9 (by simpa using h0),
              e10 := fun h => (φ.e10 (by simpa using h)).below hb9,
              s11 := fun h0 => φ.s11 (by simpa using h0),
              e12 := fun _ => ⟨q1, q2, q3, q4, rfl, q5, q6, q7, q8⟩,
              s13 := fun h0 => φ.s13 (by simpa using h0),
              s14 := fun h0 => φ.s14 (by simpa using h0),
              s15 := fun h0 => φ.s15 (by simpa using h0) }, rfl⟩
          clear hK φ hG
          revert hk
          go_simp
          first | done | exact fun h => h
        case q13 =>
          rintro L vs w' K ⟨u61, u62, u63, u64, u65, u66, u67, u68, u69, u70, u71, u72, u73, u74, u75, u76, wz, rfl, φ, rfl⟩ hL hpre hcl hK G hG
          simp [Region.binds, closedFrom] at hpre hcl
          have e8 := φ.s8 (by simp [hpre])
          subst e8
          obtain ⟨B1, m1, d1, l1, r1, r2, r3, r4, r5⟩ := φ.e10 (by simp [hpre])
          subst r1
          obtain ⟨B2, m2, d2, l2, t1, t2, t3, t4, t5⟩ := φ.e12 (by simp [hpre])
          subst t1
          have hll := all_unique r3 r4 t3 t4
          have hLi := lines_any B1 B2 d1 d2 m1 m2 l1 l2 wz r5 t5 r2 t2
          rw [decide_eq_true hll] at hLi
          refine step_callg hG wz (by simp only [yielded, Region.wanted]; go_simp) 12 #[.tmp 71, .tmp 73] #[40, 40] rfl #[.slice B1 m1 d1, .slice B2 m2 d2] (by simp [Act.eval, Act.puts, Act.put]) (enters_of Try.func12 (by kernel_rfl) rfl) hLi ?_
          rintro e w9 ⟨rfl, hb9⟩
          refine ⟨_, rfl, ?_⟩
          have hk := hK [u61, u62, u63, u64, u65, u66, u67, u68, (.bool false), u70, (.slice B1 m1 d1), u72, (.slice B2 m2 d2), (.bool true), u75, u76] w9 ⟨_, _, _, _, _, _, _, _, _, _, _, _, _, _, _, _, w9, rfl,
            { b := φ.b.trans (hb9.mono φ.b.size),
              s0 := fun h0 => φ.s0 (by simpa using h0),
              s1 := fun h0 => φ.s1 (by simpa using h0),
              s2 := fun h0 => φ.s2 (by simpa using h0),
              s3 := fun h0 => φ.s3 (by simpa using h0),
              s4 := fun h0 => φ.s4 (by simpa using h0),
              s5 := fun h0 => φ.s5 (by simpa using h0),
              s6 := fun h0 => φ.s6 (by simpa using h0),
              s7 := fun h0 => φ.s7 (by simpa using h0),
              s8 := fun h0 => φ.s8 (by simpa using h0),
              s9 := fun h0 => φ.s9 (by simpa using h0),
              e10 := fun _ => AllR.below ⟨B1, m1, d1, l1, rfl, r2, r3, r4, r5⟩ hb9,
              s11 := fun h0 => φ.s11 (by simpa using h0),
              e12 := fun _ => AllR.below ⟨B2, m2, d2, l2, rfl, t2, t3, t4, t5⟩ hb9,
              s13 := fun _ => rfl,
              s14 := fun h0 => φ.s14 (by simpa using h0),
              s15 := fun h0 => φ.s15 (by simpa using h0) }, rfl⟩
          clear hK φ hG
          revert hk
          go_simp
          first | done | exact fun h => h
        case q14 =>
          rintro L vs w' K ⟨u61, u62, u63, u64, u65, u66, u67, u68, u69, u70, u71, u72, u73, u74, u75, u76, wz, rfl, φ, rfl⟩ hL hpre hcl hK G hG
          simp [Region.binds, closedFrom] at hpre hcl
          have e8 := φ.s8 (by simp [hpre])
          subst e8
          have e13 := φ.s13 (by simp [hpre])
          subst e13
          have hk := hK [u61, u62, u63, u64, u65, u66, u67, u68, (.bool false), u70, u71, u72, u73, (.bool true), (.bool false), u76] wz ⟨_, _, _, _, _, _, _, _, _, _, _, _, _, _, _, _, wz, rfl,
            { b := φ.b,
              s0 := fun h0 => φ.s0 (by simpa using h0),
              s1 := fun h0 => φ.s1 (by simpa using h0),
              s2 := fun h0 => φ.s2 (by simpa using h0),
              s3 := fun h0 => φ.s3 (by simpa using h0),
              s4 := fun h0 => φ.s4 (by simpa using h0),
              s5 := fun h0 => φ.s5 (by simpa using h0),
              s6 := fun h0 => φ.s6 (by simpa using h0),
              s7 := fun h0 => φ.s7 (by simpa using h0),
              s8 := fun h0 => φ.s8 (by simpa using h0),
              s9 := fun h0 => φ.s9 (by simpa using h0),
              e10 := fun h0 => φ.e10 (by simpa using h0),
              s11 := fun h0 => φ.s11 (by simpa using h0),
              e12 := fun h0 => φ.e12 (by simpa using h0),
              s13 := fun h0 => φ.s13 (by simpa using h0),
              s14 := fun _ => rfl,
              s15 := fun h0 => φ.s15 (by simpa using h0) }, rfl⟩
          refine hG ?_
          clear hK φ hG
          revert hk
          simp only [yielded, Region.wanted]
          go_simp
          first | done | exact fun h => h
        case q15 =>
          rintro L vs w' K ⟨u61, u62, u63, u64, u65, u66, u67, u68, u69, u70, u71, u72, u73, u74, u75, u76, wz, rfl, φ, rfl⟩ hL hpre hcl hK G hG
          simp [Region.binds, closedFrom] at hpre hcl
          have e8 := φ.s8 (by simp [hpre])
          subst e8
          have e14 := φ.s14 (by simp [hpre])
          subst e14
          have hk := hK [u61, u62, u63, u64, u65, u66, u67, u68, (.bool false), u70, u71, u72, u73, u74, (.bool false), (.bool false)] wz ⟨_, _, _, _, _, _, _, _, _, _, _, _, _, _, _, _, wz, rfl,
            { b := φ.b,
              s0 := fun h0 => φ.s0 (by simpa using h0),
              s1 := fun h0 => φ.s1 (by simpa using h0),
              s2 := fun h0 => φ.s2 (by simpa using h0),
              s3 := fun h0 => φ.s3 (by simpa using h0),
              s4 := fun h0 => φ.s4 (by simpa using h0),
              s5 := fun h0 => φ.s5 (by simpa using h0),
              s6 := fun h0 => φ.s6 (by simpa using h0),
              s7 := fun h0 => φ.s7 (by simpa using h0),
              s8 := fun h0 => φ.s8 (by simpa using h0),
              s9 := fun h0 => φ.s9 (by simpa using h0),
              e10 := fun h0 => φ.e10 (by simpa using h0),
              s11 := fun h0 => φ.s11 (by simpa using h0),
              e12 := fun h0 => φ.e12 (by simpa using h0),
              s13 := fun h0 => φ.s13 (by simpa using h0),
              s14 := fun h0 => φ.s14 (by simpa using h0),
              s15 := fun _ => rfl }, rfl⟩
          refine hG ?_
          clear hK φ hG
          revert hk
          go_simp
          first | done | exact fun h => h
        case hend =>
          rintro vs w' ⟨u61, u62, u63, u64, u65, u66, u67, u68, u69, u70, u71, u72, u73, u74, u75, u76, wz, rfl, φ, rfl⟩ G hG
          have b9 := φ.b
          obtain rfl := φ.s15 rfl
          clear φ
          refine hG ?_
          clear hG
          replace LB := LB.below b9
          replace KB := KB.below b9
          replace MV := MV.below b9
          replace XV := XV.below b9
          replace bZ := bZ.trans (b9.mono bZ.size)
          clear x0 x1 x2 x3 m0 m1 m2 m3 l0 l1 l2 l3 k0 k1 k2 k3 cA cB HC6 b9
          go_simp
          have hcap : ∀ s, s < i → x.lines[s]!.length ≤ 1000000 := fun s hs => Nat.le_trans (HB10.out s hs) (by decide)
          have HCAP := Lib.hid hcap
          have hi6 : i ≤ 1000000 := by omega
          clear hcap
          obtain ⟨y, kq, hyk⟩ : ∃ y kq, useC x t = (y, kq) := ⟨_, _, rfl⟩
          have hny : y.lines.length ≤ 1000000 := by have h := congrArg (fun r => r.1.lines.length) hyk; rw [← h]; unfold useC usedC; split <;> (try split) <;> simp <;> (have := HN.out; omega)
          have cM := GivesC.num (use_any B d i x hs2 t wz MV.cin HN.out hi6 HCAP.out HWF.out) hyk (n := y.lines.length) rfl
          have cN := fun w1 (h : CIn w1 A x.lines hs) => rUse_any A c i x hs t w1 h HN.out hi6 HCAP.out
          simp only [hyk] at cN
          have HNY := Lib.hid hny
          clear hyk hny
          have m0 := MV.V.cell 0 _ rfl
          have m1 := MV.V.cell 1 _ rfl
          have m2 := MV.V.cell 2 _ rfl
          have m3 := MV.V.cell 3 _ rfl
          go_wp2_with fail
          refine cM.mono ?_
          rintro e w7 ⟨Bq, dq, hsq, rfl, ownq, hb7⟩
          have hAX : KX < w7.heap.size := Nat.lt_of_lt_of_le KB.lt hb7.size
          have AB := Bx.new w7 [.int .i64 y.sets, .int .i64 y.ways, .int .i64 y.clock, .slice Bq y.lines.length dq] 26
          replace ownq := ownq.below ((Below.refl w7.heap.size w7).alloc (Nat.le_refl _) (.cells #[.int .i64 y.sets, .int .i64 y.ways, .int .i64 y.clock, .slice Bq y.lines.length dq] 26))
          replace LB := (LB.below hb7).alloc (.cells #[.int .i64 y.sets, .int .i64 y.ways, .int .i64 y.clock, .slice Bq y.lines.length dq] 26)
          replace KB := (KB.below hb7).alloc (.cells #[.int .i64 y.sets, .int .i64 y.ways, .int .i64 y.clock, .slice Bq y.lines.length dq] 26)
          replace MV := (MV.below hb7).alloc (.cells #[.int .i64 y.sets, .int .i64 y.ways, .int .i64 y.clock, .slice Bq y.lines.length dq] 26)
          replace XV := (XV.below hb7).alloc (.cells #[.int .i64 y.sets, .int .i64 y.ways, .int .i64 y.clock, .slice Bq y.lines.length dq] 26)
          replace bZ := (bZ.trans (hb7.mono bZ.size)).alloc (Nat.le_trans bZ.size hb7.size) (.cells #[.int .i64 y.sets, .int .i64 y.ways, .int .i64 y.clock, .slice Bq y.lines.length dq] 26)
          have HC7 := HC0.out.below bZ
          clear m0 m1 m2 m3 cM hb7
          have x0 := XV.cell 0 _ rfl
          have x1 := XV.cell 1 _ rfl
          have x2 := XV.cell 2 _ rfl
          have x3 := XV.cell 3 _ rfl
          go_wp2_with fail
          generalize w7.alloc (.cells #[.int .i64 y.sets, .int .i64 y.ways, .int .i64 y.clock, .slice Bq y.lines.length dq] 26) = W7 at *
          generalize w7.heap.size = AX at *
          refine (cN _ HC7).mono ?_
          rintro e w8 ⟨v8, rfl, ⟨B8, d8, hs8, rfl, ci8, far8⟩, hb8⟩
          have hBX : AX < w8.heap.size := Nat.lt_of_lt_of_le AB.lt hb8.size
          have BB := Bx.new w8 [.int .i64 y.sets, .int .i64 y.ways, .int .i64 y.clock, .slice B8 y.lines.length d8] 26
          replace ci8 := ci8.below ((Below.refl w8.heap.size w8).alloc (Nat.le_refl _) (.cells #[.int .i64 y.sets, .int .i64 y.ways, .int .i64 y.clock, .slice B8 y.lines.length d8] 26))
          replace ownq := (ownq.below hb8).below ((Below.refl w8.heap.size w8).alloc (Nat.le_refl _) (.cells #[.int .i64 y.sets, .int .i64 y.ways, .int .i64 y.clock, .slice B8 y.lines.length d8] 26))
          replace AB := (AB.below hb8).alloc (.cells #[.int .i64 y.sets, .int .i64 y.ways, .int .i64 y.clock, .slice B8 y.lines.length d8] 26)
          replace LB := (LB.below hb8).alloc (.cells #[.int .i64 y.sets, .int .i64 y.ways, .int .i64 y.clock, .slice B8 y.lines.length d8] 26)
          replace KB := (KB.below hb8).alloc (.cells #[.int .i64 y.sets, .int .i64 y.ways, .int .i64 y.clock, .slice B8 y.lines.length d8] 26)
          replace MV := (MV.below hb8).alloc (.cells #[.int .i64 y.sets, .int .i64 y.ways, .int .i64 y.clock, .slice B8 y.lines.length d8] 26)
          replace XV := (XV.below hb8).alloc (.cells #[.int .i64 y.sets, .int .i64 y.ways, .int .i64 y.clock, .slice B8 y.lines.length d8] 26)
          replace bZ := (bZ.trans (hb8.mono bZ.size)).alloc (Nat.le_trans bZ.size hb8.size) (.cells #[.int .i64 y.sets, .int .i64 y.ways, .int .i64 y.clock, .slice B8 y.lines.length d8] 26)
          clear x0 x1 x2 x3 cN hb8 HC7 far8
          have a0 := AB.cell 0 _ rfl
          have a1 := AB.cell 1 _ rfl
          have a2 := AB.cell 2 _ rfl
          have a3 := AB.cell 3 _ rfl
          go_wp2_with fail
          generalize w8.alloc (.cells #[.int .i64 y.sets, .int .i64 y.ways, .int .i64 y.clock, .slice B8 y.lines.length d8] 26) = W8 at *
          generalize w8.heap.size = BX at *
          clear a0 a1 a2 a3
          refine (same_any2 Bq B8 dq d8 y.lines.length y hsq hs8 _ ownq.cin ci8 rfl HNY.out).mono ?_
          rintro e w9 ⟨rfl, hb9⟩
          replace AB := AB.below hb9
          replace BB := BB.below hb9
          replace LB := LB.below hb9
          replace KB := KB.below hb9
          replace MV := MV.below hb9
          replace XV := XV.below hb9
          replace bZ := bZ.trans (hb9.mono bZ.size)
          clear hb9 ownq ci8
          have hwx : w.heap.size ≤ ws := by rw [← HWS.out]; exact hWw
          have hb_AX : w.heap.size ≤ AX := by omega
          have hb_BX : w.heap.size ≤ BX := by omega
          have hb_LX : w.heap.size ≤ LX := by omega
          have hb_KX : w.heap.size ≤ KX := by omega
          have ne_AX_BB : AX ≠ BX := by omega
          have ne_AX_LB : AX ≠ LX := by omega
          have ne_AX_KB : AX ≠ KX := by omega
          have ne_AX_XV : AX ≠ CX := by omega
          have ne_AX_MV : AX ≠ MX := by omega
          have ws_AX : ∀ g, g < ws → g ≠ AX := fun g hg => by omega
          have ne_BX_AB : BX ≠ AX := by omega
          have ne_BX_LB : BX ≠ LX := by omega
          have ne_BX_KB : BX ≠ KX := by omega
          have ne_BX_XV : BX ≠ CX := by omega
          have ne_BX_MV : BX ≠ MX := by omega
          have ws_BX : ∀ g, g < ws → g ≠ BX := fun g hg => by omega
          have ne_LX_AB : LX ≠ AX := by omega
          have ne_LX_BB : LX ≠ BX := by omega
          have ne_LX_KB : LX ≠ KX := by omega
          have ne_LX_XV : LX ≠ CX := by omega
          have ne_LX_MV : LX ≠ MX := by omega
          have ws_LX : ∀ g, g < ws → g ≠ LX := fun g hg => by omega
          have ne_KX_AB : KX ≠ AX := by omega
          have ne_KX_BB : KX ≠ BX := by omega
          have ne_KX_LB : KX ≠ LX := by omega
          have ne_KX_XV : KX ≠ CX := by omega
          have ne_KX_MV : KX ≠ MX := by omega
          have ws_KX : ∀ g, g < ws → g ≠ KX := fun g hg => by omega
          obtain ⟨y, kq, hyk⟩ : ∃ y kq, dropC x t = (y, kq) := ⟨_, _, rfl⟩
          have hny : y.lines.length ≤ 1000000 := by have h := congrArg (fun r => r.1.lines.length) hyk; rw [← h]; unfold dropC; split <;> (try split) <;> simp <;> (have := HN.out; omega)
          have cM := GivesC.num (drop_any B d i x hs2 t w9 MV.cin HN.out hi6 HCAP.out HWF.out) hyk (n := y.lines.length) rfl
          have cN := fun w1 (h : CIn w1 A x.lines hs) => rDrop_any A c i x hs t w1 h HN.out hi6 HCAP.out
          simp only [hyk] at cN
          have HNY := Lib.hid hny
          have hAXb := AB.lt
          have hBXw := BB.lt
          clear hyk hny
          have m0 := MV.V.cell 0 _ rfl
          have m1 := MV.V.cell 1 _ rfl
          have m2 := MV.V.cell 2 _ rfl
          have m3 := MV.V.cell 3 _ rfl
          go_wp2_with fail
          refine cM.mono ?_
          rintro e w7 ⟨Bq, dq, hsq, rfl, ownq, hb7⟩
          clear m0 m1 m2 m3 cM
          replace AB := AB.below hb7
          replace BB := BB.below hb7
          replace LB := LB.below hb7
          replace KB := KB.below hb7
          replace MV := MV.below hb7
          replace XV := XV.below hb7
          replace bZ := bZ.trans (hb7.mono bZ.size)
          have a0 := AB.cell 0 _ rfl
          have a1 := AB.cell 1 _ rfl
          have a2 := AB.cell 2 _ rfl
          have a3 := AB.cell 3 _ rfl
          have p0 := AB.froz 0
          have p1 := AB.froz 1
          have p2 := AB.froz 2
          have p3 := AB.froz 3
          replace ownq := ((((ownq.set hAXb 0 (.int .i64 y.sets)).set hAXb 1 (.int .i64 y.ways)).set hAXb 2 (.int .i64 y.clock)).set hAXb 3 (.slice Bq y.lines.length dq))
          clear hb7
          have AB2 := AB.set4 (.int .i64 y.sets) (.int .i64 y.ways) (.int .i64 y.clock) (.slice Bq y.lines.length dq)
          clear AB
          have AB := AB2
          clear AB2
          replace BB := BB.far4 ne_AX_BB (.int .i64 y.sets) (.int .i64 y.ways) (.int .i64 y.clock) (.slice Bq y.lines.length dq)
          replace LB := LB.far4 ne_AX_LB (.int .i64 y.sets) (.int .i64 y.ways) (.int .i64 y.clock) (.slice Bq y.lines.length dq)
          replace KB := KB.far4 ne_AX_KB (.int .i64 y.sets) (.int .i64 y.ways) (.int .i64 y.clock) (.slice Bq y.lines.length dq)
          replace XV := XV.far4 ne_AX_XV (.int .i64 y.sets) (.int .i64 y.ways) (.int .i64 y.clock) (.slice Bq y.lines.length dq)
          replace MV := ((((MV.far ne_AX_MV ws_AX 0 (.int .i64 y.sets)).far ne_AX_MV ws_AX 1 (.int .i64 y.ways)).far ne_AX_MV ws_AX 2 (.int .i64 y.clock)).far ne_AX_MV ws_AX 3 (.slice Bq y.lines.length dq))
          replace bZ := ((((bZ.setCell (p := ⟨AX, 0, none⟩) hb_AX (.int .i64 y.sets)).setCell (p := ⟨AX, 1, none⟩) hb_AX (.int .i64 y.ways)).setCell (p := ⟨AX, 2, none⟩) hb_AX (.int .i64 y.clock)).setCell (p := ⟨AX, 3, none⟩) hb_AX (.slice Bq y.lines.length dq))
          have HC7 := HC0.out.below bZ
          have x0 := XV.cell 0 _ rfl
          have x1 := XV.cell 1 _ rfl
          have x2 := XV.cell 2 _ rfl
          have x3 := XV.cell 3 _ rfl
          go_wp2_with fail
          clear a0 a1 a2 a3 p0 p1 p2 p3
          generalize ((((w7.setCell ⟨AX, 0, none⟩ (.int .i64 y.sets)).setCell ⟨AX, 1, none⟩ (.int .i64 y.ways)).setCell ⟨AX, 2, none⟩ (.int .i64 y.clock)).setCell ⟨AX, 3, none⟩ (.slice Bq y.lines.length dq)) = W7 at *
          refine (cN _ HC7).mono ?_
          have hBXb := BB.lt
          rintro e w8 ⟨v8, rfl, ⟨B8, d8, hs8, rfl, ci8, far8⟩, hb8⟩
          clear x0 x1 x2 x3 cN HC7
          replace AB := AB.below hb8
          replace BB := BB.below hb8
          replace LB := LB.below hb8
          replace KB := KB.below hb8
          replace MV := MV.below hb8
          replace XV := XV.below hb8
          replace bZ := bZ.trans (hb8.mono bZ.size)
          replace ownq := ownq.below hb8
          have hfB := far8 BX ⟨hBXb, HC0.out.far hb_BX⟩
          replace ci8 := ((((ci8.setFar hfB 0 (.int .i64 y.sets)).setFar hfB 1 (.int .i64 y.ways)).setFar hfB 2 (.int .i64 y.clock)).setFar hfB 3 (.slice B8 y.lines.length d8))
          have hBXq : BX < w9.heap.size := hBXw
          replace ownq := ((((ownq.set hBXq 0 (.int .i64 y.sets)).set hBXq 1 (.int .i64 y.ways)).set hBXq 2 (.int .i64 y.clock)).set hBXq 3 (.slice B8 y.lines.length d8))
          clear hb8 hfB far8
          have b0 := BB.cell 0 _ rfl
          have b1 := BB.cell 1 _ rfl
          have b2 := BB.cell 2 _ rfl
          have b3 := BB.cell 3 _ rfl
          have p0 := BB.froz 0
          have p1 := BB.froz 1
          have p2 := BB.froz 2
          have p3 := BB.froz 3
          have BB2 := BB.set4 (.int .i64 y.sets) (.int .i64 y.ways) (.int .i64 y.clock) (.slice B8 y.lines.length d8)
          clear BB
          have BB := BB2
          clear BB2
          replace AB := AB.far4 ne_BX_AB (.int .i64 y.sets) (.int .i64 y.ways) (.int .i64 y.clock) (.slice B8 y.lines.length d8)
          replace LB := LB.far4 ne_BX_LB (.int .i64 y.sets) (.int .i64 y.ways) (.int .i64 y.clock) (.slice B8 y.lines.length d8)
          replace KB := KB.far4 ne_BX_KB (.int .i64 y.sets) (.int .i64 y.ways) (.int .i64 y.clock) (.slice B8 y.lines.length d8)
          replace XV := XV.far4 ne_BX_XV (.int .i64 y.sets) (.int .i64 y.ways) (.int .i64 y.clock) (.slice B8 y.lines.length d8)
          replace MV := ((((MV.far ne_BX_MV ws_BX 0 (.int .i64 y.sets)).far ne_BX_MV ws_BX 1 (.int .i64 y.ways)).far ne_BX_MV ws_BX 2 (.int .i64 y.clock)).far ne_BX_MV ws_BX 3 (.slice B8 y.lines.length d8))
          replace bZ := ((((bZ.setCell (p := ⟨BX, 0, none⟩) hb_BX (.int .i64 y.sets)).setCell (p := ⟨BX, 1, none⟩) hb_BX (.int .i64 y.ways)).setCell (p := ⟨BX, 2, none⟩) hb_BX (.int .i64 y.clock)).setCell (p := ⟨BX, 3, none⟩) hb_BX (.slice B8 y.lines.length d8))
          have a0 := AB.cell 0 _ rfl
          have a1 := AB.cell 1 _ rfl
          have a2 := AB.cell 2 _ rfl
          have a3 := AB.cell 3 _ rfl
          have q0 := BB.cell 0 _ rfl
          have q1 := BB.cell 1 _ rfl
          have q2 := BB.cell 2 _ rfl
          have q3 := BB.cell 3 _ rfl
          go_wp2_with fail
          clear a0 a1 a2 a3 b0 b1 b2 b3 p0 p1 p2 p3 q0 q1 q2 q3
          generalize ((((w8.setCell ⟨BX, 0, none⟩ (.int .i64 y.sets)).setCell ⟨BX, 1, none⟩ (.int .i64 y.ways)).setCell ⟨BX, 2, none⟩ (.int .i64 y.clock)).setCell ⟨BX, 3, none⟩ (.slice B8 y.lines.length d8)) = W8 at *
          refine (same_any2 Bq B8 dq d8 y.lines.length y hsq hs8 _ ownq.cin ci8 rfl HNY.out).mono ?_
          rintro e w9 ⟨rfl, hb9⟩
          replace AB := AB.below hb9
          replace BB := BB.below hb9
          replace LB := LB.below hb9
          replace KB := KB.below hb9
          replace MV := MV.below hb9
          replace XV := XV.below hb9
          replace bZ := bZ.trans (hb9.mono bZ.size)
          clear hb9 ownq ci8
          obtain ⟨y, z, kq, hyk⟩ : ∃ y z kq, putC x t st v = (y, z, kq) := ⟨_, _, _, rfl⟩
          have hny : y.lines.length ≤ 1000000 := by have h := congrArg (fun r => r.1.lines.length) hyk; rw [← h]; unfold putC; split <;> (try split) <;> simp <;> (have := HN.out; omega)
          have cM := GivesP.num (put_any B d i x hs2 t st v w9 MV.cin HN.out hi6 HCAP.out HWF.out) hyk (n := y.lines.length) rfl
          have cN := fun w1 (h : CIn w1 A x.lines hs) => rPut_any A c i x hs t st v w1 h HN.out hi6 HCAP.out
          simp only [hyk] at cN
          have HNY := Lib.hid hny
          have hAXb := AB.lt
          have hBXw := BB.lt
          have hLXb := LB.lt
          have hKXb := KB.lt
          clear hyk hny
          have m0 := MV.V.cell 0 _ rfl
          have m1 := MV.V.cell 1 _ rfl
          have m2 := MV.V.cell 2 _ rfl
          have m3 := MV.V.cell 3 _ rfl
          go_wp2_with fail
          refine cM.mono ?_
          rintro e w7 ⟨Bq, dq, hsq, rfl, ownq, hb7⟩
          clear m0 m1 m2 m3 cM
          replace AB := AB.below hb7
          replace BB := BB.below hb7
          replace LB := LB.below hb7
          replace KB := KB.below hb7
          replace MV := MV.below hb7
          replace XV := XV.below hb7
          replace bZ := bZ.trans (hb7.mono bZ.size)
          have a0 := AB.cell 0 _ rfl
          have a1 := AB.cell 1 _ rfl
          have a2 := AB.cell 2 _ rfl
          have a3 := AB.cell 3 _ rfl
          have p0 := AB.froz 0
          have p1 := AB.froz 1
          have p2 := AB.froz 2
          have p3 := AB.froz 3
          have l0 := LB.cell 0 _ rfl
          have l1 := LB.cell 1 _ rfl
          have l2 := LB.cell 2 _ rfl
          have l3 := LB.cell 3 _ rfl
          have r0 := LB.froz 0
          have r1 := LB.froz 1
          have r2 := LB.froz 2
          have r3 := LB.froz 3
          replace ownq := ((((ownq.set hAXb 0 (.int .i64 y.sets)).set hAXb 1 (.int .i64 y.ways)).set hAXb 2 (.int .i64 y.clock)).set hAXb 3 (.slice Bq y.lines.length dq))
          replace ownq := ((((ownq.set hLXb 0 (.int .i64 z.addr)).set hLXb 1 (.int .i64 z.state)).set hLXb 2 (.int .u32 z.val_)).set hLXb 3 (.int .i64 z.used))
          clear hb7
          have AB2 := AB.set4 (.int .i64 y.sets) (.int .i64 y.ways) (.int .i64 y.clock) (.slice Bq y.lines.length dq)
          clear AB
          have AB := AB2
          clear AB2
          replace BB := BB.far4 ne_AX_BB (.int .i64 y.sets) (.int .i64 y.ways) (.int .i64 y.clock) (.slice Bq y.lines.length dq)
          replace LB := LB.far4 ne_AX_LB (.int .i64 y.sets) (.int .i64 y.ways) (.int .i64 y.clock) (.slice Bq y.lines.length dq)
          replace KB := KB.far4 ne_AX_KB (.int .i64 y.sets) (.int .i64 y.ways) (.int .i64 y.clock) (.slice Bq y.lines.length dq)
          replace XV := XV.far4 ne_AX_XV (.int .i64 y.sets) (.int .i64 y.ways) (.int .i64 y.clock) (.slice Bq y.lines.length dq)
          replace MV := ((((MV.far ne_AX_MV ws_AX 0 (.int .i64 y.sets)).far ne_AX_MV ws_AX 1 (.int .i64 y.ways)).far ne_AX_MV ws_AX 2 (.int .i64 y.clock)).far ne_AX_MV ws_AX 3 (.slice Bq y.lines.length dq))
          replace bZ := ((((bZ.setCell (p := ⟨AX, 0, none⟩) hb_AX (.int .i64 y.sets)).setCell (p := ⟨AX, 1, none⟩) hb_AX (.int .i64 y.ways)).setCell (p := ⟨AX, 2, none⟩) hb_AX (.int .i64 y.clock)).setCell (p := ⟨AX, 3, none⟩) hb_AX (.slice Bq y.lines.length dq))
          have LB2 := LB.set4 (.int .i64 z.addr) (.int .i64 z.state) (.int .u32 z.val_) (.int .i64 z.used)
          clear LB
          have LB := LB2
          clear LB2
          replace AB := AB.far4 ne_LX_AB (.int .i64 z.addr) (.int .i64 z.state) (.int .u32 z.val_) (.int .i64 z.used)
          replace BB := BB.far4 ne_LX_BB (.int .i64 z.addr) (.int .i64 z.state) (.int .u32 z.val_) (.int .i64 z.used)
          replace KB := KB.far4 ne_LX_KB (.int .i64 z.addr) (.int .i64 z.state) (.int .u32 z.val_) (.int .i64 z.used)
          replace XV := XV.far4 ne_LX_XV (.int .i64 z.addr) (.int .i64 z.state) (.int .u32 z.val_) (.int .i64 z.used)
          replace MV := ((((MV.far ne_LX_MV ws_LX 0 (.int .i64 z.addr)).far ne_LX_MV ws_LX 1 (.int .i64 z.state)).far ne_LX_MV ws_LX 2 (.int .u32 z.val_)).far ne_LX_MV ws_LX 3 (.int .i64 z.used))
          replace bZ := ((((bZ.setCell (p := ⟨LX, 0, none⟩) hb_LX (.int .i64 z.addr)).setCell (p := ⟨LX, 1, none⟩) hb_LX (.int .i64 z.state)).setCell (p := ⟨LX, 2, none⟩) hb_LX (.int .u32 z.val_)).setCell (p := ⟨LX, 3, none⟩) hb_LX (.int .i64 z.used))
          have HC7 := HC0.out.below bZ
          have x0 := XV.cell 0 _ rfl
          have x1 := XV.cell 1 _ rfl
          have x2 := XV.cell 2 _ rfl
          have x3 := XV.cell 3 _ rfl
          have nal := ne_AX_LB
          have nla := ne_LX_AB
          go_wp2_with fail
          clear a0 a1 a2 a3 p0 p1 p2 p3 l0 l1 l2 l3 r0 r1 r2 r3
          generalize ((((((((w7.setCell ⟨AX, 0, none⟩ (.int .i64 y.sets)).setCell ⟨AX, 1, none⟩ (.int .i64 y.ways)).setCell ⟨AX, 2, none⟩ (.int .i64 y.clock)).setCell ⟨AX, 3, none⟩ (.slice Bq y.lines.length dq)).setCell ⟨LX, 0, none⟩ (.int .i64 z.addr)).setCell ⟨LX, 1, none⟩ (.int .i64 z.state)).setCell ⟨LX, 2, none⟩ (.int .u32 z.val_)).setCell ⟨LX, 3, none⟩ (.int .i64 z.used)) = W7 at *
          refine (cN _ HC7).mono ?_
          have hBXb := BB.lt
          have hKXq := KB.lt
          rintro e w8 ⟨v8, rfl, ⟨B8, d8, hs8, rfl, ci8, far8⟩, hb8⟩
          clear x0 x1 x2 x3 cN HC7
          replace AB := AB.below hb8
          replace BB := BB.below hb8
          replace LB := LB.below hb8
          replace KB := KB.below hb8
          replace MV := MV.below hb8
          replace XV := XV.below hb8
          replace bZ := bZ.trans (hb8.mono bZ.size)
          replace ownq := ownq.below hb8
          have hfB := far8 BX ⟨hBXb, HC0.out.far hb_BX⟩
          have hfK := far8 KX ⟨hKXq, HC0.out.far hb_KX⟩
          replace ci8 := ((((ci8.setFar hfB 0 (.int .i64 y.sets)).setFar hfB 1 (.int .i64 y.ways)).setFar hfB 2 (.int .i64 y.clock)).setFar hfB 3 (.slice B8 y.lines.length d8))
          replace ci8 := ((((ci8.setFar hfK 0 (.int .i64 z.addr)).setFar hfK 1 (.int .i64 z.state)).setFar hfK 2 (.int .u32 z.val_)).setFar hfK 3 (.int .i64 z.used))
          replace ownq := ((((ownq.set hBXw 0 (.int .i64 y.sets)).set hBXw 1 (.int .i64 y.ways)).set hBXw 2 (.int .i64 y.clock)).set hBXw 3 (.slice B8 y.lines.length d8))
          replace ownq := ((((ownq.set hKXb 0 (.int .i64 z.addr)).set hKXb 1 (.int .i64 z.state)).set hKXb 2 (.int .u32 z.val_)).set hKXb 3 (.int .i64 z.used))
          clear hb8 hfB hfK far8
          have b0 := BB.cell 0 _ rfl
          have b1 := BB.cell 1 _ rfl
          have b2 := BB.cell 2 _ rfl
          have b3 := BB.cell 3 _ rfl
          have p0 := BB.froz 0
          have p1 := BB.froz 1
          have p2 := BB.froz 2
          have p3 := BB.froz 3
          have k0 := KB.cell 0 _ rfl
          have k1 := KB.cell 1 _ rfl
          have k2 := KB.cell 2 _ rfl
          have k3 := KB.cell 3 _ rfl
          have r0 := KB.froz 0
          have r1 := KB.froz 1
          have r2 := KB.froz 2
          have r3 := KB.froz 3
          have BB2 := BB.set4 (.int .i64 y.sets) (.int .i64 y.ways) (.int .i64 y.clock) (.slice B8 y.lines.length d8)
          clear BB
          have BB := BB2
          clear BB2
          replace AB := AB.far4 ne_BX_AB (.int .i64 y.sets) (.int .i64 y.ways) (.int .i64 y.clock) (.slice B8 y.lines.length d8)
          replace LB := LB.far4 ne_BX_LB (.int .i64 y.sets) (.int .i64 y.ways) (.int .i64 y.clock) (.slice B8 y.lines.length d8)
          replace KB := KB.far4 ne_BX_KB (.int .i64 y.sets) (.int .i64 y.ways) (.int .i64 y.clock) (.slice B8 y.lines.length d8)
          replace XV := XV.far4 ne_BX_XV (.int .i64 y.sets) (.int .i64 y.ways) (.int .i64 y.clock) (.slice B8 y.lines.length d8)
          replace MV := ((((MV.far ne_BX_MV ws_BX 0 (.int .i64 y.sets)).far ne_BX_MV ws_BX 1 (.int .i64 y.ways)).far ne_BX_MV ws_BX 2 (.int .i64 y.clock)).far ne_BX_MV ws_BX 3 (.slice B8 y.lines.length d8))
          replace bZ := ((((bZ.setCell (p := ⟨BX, 0, none⟩) hb_BX (.int .i64 y.sets)).setCell (p := ⟨BX, 1, none⟩) hb_BX (.int .i64 y.ways)).setCell (p := ⟨BX, 2, none⟩) hb_BX (.int .i64 y.clock)).setCell (p := ⟨BX, 3, none⟩) hb_BX (.slice B8 y.lines.length d8))
          have KB2 := KB.set4 (.int .i64 z.addr) (.int .i64 z.state) (.int .u32 z.val_) (.int .i64 z.used)
          clear KB
          have KB := KB2
          clear KB2
          replace AB := AB.far4 ne_KX_AB (.int .i64 z.addr) (.int .i64 z.state) (.int .u32 z.val_) (.int .i64 z.used)
          replace BB := BB.far4 ne_KX_BB (.int .i64 z.addr) (.int .i64 z.state) (.int .u32 z.val_) (.int .i64 z.used)
          replace LB := LB.far4 ne_KX_LB (.int .i64 z.addr) (.int .i64 z.state) (.int .u32 z.val_) (.int .i64 z.used)
          replace XV := XV.far4 ne_KX_XV (.int .i64 z.addr) (.int .i64 z.state) (.int .u32 z.val_) (.int .i64 z.used)
          replace MV := ((((MV.far ne_KX_MV ws_KX 0 (.int .i64 z.addr)).far ne_KX_MV ws_KX 1 (.int .i64 z.state)).far ne_KX_MV ws_KX 2 (.int .u32 z.val_)).far ne_KX_MV ws_KX 3 (.int .i64 z.used))
          replace bZ := ((((bZ.setCell (p := ⟨KX, 0, none⟩) hb_KX (.int .i64 z.addr)).setCell (p := ⟨KX, 1, none⟩) hb_KX (.int .i64 z.state)).setCell (p := ⟨KX, 2, none⟩) hb_KX (.int .u32 z.val_)).setCell (p := ⟨KX, 3, none⟩) hb_KX (.int .i64 z.used))
          have a0 := AB.cell 0 _ rfl
          have a1 := AB.cell 1 _ rfl
          have a2 := AB.cell 2 _ rfl
          have a3 := AB.cell 3 _ rfl
          have q0 := BB.cell 0 _ rfl
          have q1 := BB.cell 1 _ rfl
          have q2 := BB.cell 2 _ rfl
          have q3 := BB.cell 3 _ rfl
          go_wp2_with fail
          clear a0 a1 a2 a3 b0 b1 b2 b3 p0 p1 p2 p3 q0 q1 q2 q3 k0 k1 k2 k3 r0 r1 r2 r3
          generalize ((((((((w8.setCell ⟨BX, 0, none⟩ (.int .i64 y.sets)).setCell ⟨BX, 1, none⟩ (.int .i64 y.ways)).setCell ⟨BX, 2, none⟩ (.int .i64 y.clock)).setCell ⟨BX, 3, none⟩ (.slice B8 y.lines.length d8)).setCell ⟨KX, 0, none⟩ (.int .i64 z.addr)).setCell ⟨KX, 1, none⟩ (.int .i64 z.state)).setCell ⟨KX, 2, none⟩ (.int .u32 z.val_)).setCell ⟨KX, 3, none⟩ (.int .i64 z.used)) = W8 at *
          refine (same_any2 Bq B8 dq d8 y.lines.length y hsq hs8 _ ownq.cin ci8 rfl HNY.out).mono ?_
          rintro e w9 ⟨rfl, hb9⟩
          replace AB := AB.below hb9
          replace BB := BB.below hb9
          replace LB := LB.below hb9
          replace KB := KB.below hb9
          replace MV := MV.below hb9
          replace XV := XV.below hb9
          replace bZ := bZ.trans (hb9.mono bZ.size)
          clear hb9 ownq ci8
          have l0 := LB.cell 0 _ rfl
          have l1 := LB.cell 1 _ rfl
          have l2 := LB.cell 2 _ rfl
          have l3 := LB.cell 3 _ rfl
          have k0 := KB.cell 0 _ rfl
          have k1 := KB.cell 1 _ rfl
          have k2 := KB.cell 2 _ rfl
          have k3 := KB.cell 3 _ rfl
          obtain ⟨y, kq, hyk⟩ : ∃ y kq, newC se wa = (y, kq) := ⟨_, _, rfl⟩
          have hny : y.lines.length ≤ 1000000 := by have h := congrArg (fun r => r.1.lines.length) hyk; rw [← h]; unfold newC; split <;> simp <;> omega
          have cM := GivesC.num (new_any se wa w9) hyk (n := y.lines.length) rfl
          have cN := fun w1 => GivesC.num (rNew_any se wa w1) hyk (n := y.lines.length) rfl
          have HNY := Lib.hid hny
          have hAXb := AB.lt
          have hBXw := BB.lt
          clear hyk hny
          go_wp2_with fail
          refine cM.mono ?_
          rintro e w7 ⟨Bq, dq, hsq, rfl, ownq, hb7⟩
          clear l0 l1 l2 l3 k0 k1 k2 k3 cM
          replace AB := AB.below hb7
          replace BB := BB.below hb7
          replace LB := LB.below hb7
          replace KB := KB.below hb7
          replace MV := MV.below hb7
          replace XV := XV.below hb7
          replace bZ := bZ.trans (hb7.mono bZ.size)
          have a0 := AB.cell 0 _ rfl
          have a1 := AB.cell 1 _ rfl
          have a2 := AB.cell 2 _ rfl
          have a3 := AB.cell 3 _ rfl
          have p0 := AB.froz 0
          have p1 := AB.froz 1
          have p2 := AB.froz 2
          have p3 := AB.froz 3
          replace ownq := ((((ownq.set hAXb 0 (.int .i64 y.sets)).set hAXb 1 (.int .i64 y.ways)).set hAXb 2 (.int .i64 y.clock)).set hAXb 3 (.slice Bq y.lines.length dq))
          clear hb7
          have AB2 := AB.set4 (.int .i64 y.sets) (.int .i64 y.ways) (.int .i64 y.clock) (.slice Bq y.lines.length dq)
          clear AB
          have AB := AB2
          clear AB2
          replace BB := BB.far4 ne_AX_BB (.int .i64 y.sets) (.int .i64 y.ways) (.int .i64 y.clock) (.slice Bq y.lines.length dq)
          replace LB := LB.far4 ne_AX_LB (.int .i64 y.sets) (.int .i64 y.ways) (.int .i64 y.clock) (.slice Bq y.lines.length dq)
          replace KB := KB.far4 ne_AX_KB (.int .i64 y.sets) (.int .i64 y.ways) (.int .i64 y.clock) (.slice Bq y.lines.length dq)
          replace XV := XV.far4 ne_AX_XV (.int .i64 y.sets) (.int .i64 y.ways) (.int .i64 y.clock) (.slice Bq y.lines.length dq)
          replace MV := ((((MV.far ne_AX_MV ws_AX 0 (.int .i64 y.sets)).far ne_AX_MV ws_AX 1 (.int .i64 y.ways)).far ne_AX_MV ws_AX 2 (.int .i64 y.clock)).far ne_AX_MV ws_AX 3 (.slice Bq y.lines.length dq))
          replace bZ := ((((bZ.setCell (p := ⟨AX, 0, none⟩) hb_AX (.int .i64 y.sets)).setCell (p := ⟨AX, 1, none⟩) hb_AX (.int .i64 y.ways)).setCell (p := ⟨AX, 2, none⟩) hb_AX (.int .i64 y.clock)).setCell (p := ⟨AX, 3, none⟩) hb_AX (.slice Bq y.lines.length dq))
          go_wp2_with fail
          clear a0 a1 a2 a3 p0 p1 p2 p3
          generalize ((((w7.setCell ⟨AX, 0, none⟩ (.int .i64 y.sets)).setCell ⟨AX, 1, none⟩ (.int .i64 y.ways)).setCell ⟨AX, 2, none⟩ (.int .i64 y.clock)).setCell ⟨AX, 3, none⟩ (.slice Bq y.lines.length dq)) = W7 at *
          refine (cN _).mono ?_
          have hBXb := BB.lt
          rintro e w8 ⟨B8, d8, hs8, rfl, own8, hb8⟩
          clear cN
          replace AB := AB.below hb8
          replace BB := BB.below hb8
          replace LB := LB.below hb8
          replace KB := KB.below hb8
          replace MV := MV.below hb8
          replace XV := XV.below hb8
          replace bZ := bZ.trans (hb8.mono bZ.size)
          replace ownq := ownq.below hb8
          replace own8 := ((((own8.set hBXb 0 (.int .i64 y.sets)).set hBXb 1 (.int .i64 y.ways)).set hBXb 2 (.int .i64 y.clock)).set hBXb 3 (.slice B8 y.lines.length d8))
          replace ownq := ((((ownq.set hBXw 0 (.int .i64 y.sets)).set hBXw 1 (.int .i64 y.ways)).set hBXw 2 (.int .i64 y.clock)).set hBXw 3 (.slice B8 y.lines.length d8))
          clear hb8
          have b0 := BB.cell 0 _ rfl
          have b1 := BB.cell 1 _ rfl
          have b2 := BB.cell 2 _ rfl
          have b3 := BB.cell 3 _ rfl
          have p0 := BB.froz 0
          have p1 := BB.froz 1
          have p2 := BB.froz 2
          have p3 := BB.froz 3
          have BB2 := BB.set4 (.int .i64 y.sets) (.int .i64 y.ways) (.int .i64 y.clock) (.slice B8 y.lines.length d8)
          clear BB
          have BB := BB2
          clear BB2
          replace AB := AB.far4 ne_BX_AB (.int .i64 y.sets) (.int .i64 y.ways) (.int .i64 y.clock) (.slice B8 y.lines.length d8)
          replace LB := LB.far4 ne_BX_LB (.int .i64 y.sets) (.int .i64 y.ways) (.int .i64 y.clock) (.slice B8 y.lines.length d8)
          replace KB := KB.far4 ne_BX_KB (.int .i64 y.sets) (.int .i64 y.ways) (.int .i64 y.clock) (.slice B8 y.lines.length d8)
          replace XV := XV.far4 ne_BX_XV (.int .i64 y.sets) (.int .i64 y.ways) (.int .i64 y.clock) (.slice B8 y.lines.length d8)
          replace MV := ((((MV.far ne_BX_MV ws_BX 0 (.int .i64 y.sets)).far ne_BX_MV ws_BX 1 (.int .i64 y.ways)).far ne_BX_MV ws_BX 2 (.int .i64 y.clock)).far ne_BX_MV ws_BX 3 (.slice B8 y.lines.length d8))
          replace bZ := ((((bZ.setCell (p := ⟨BX, 0, none⟩) hb_BX (.int .i64 y.sets)).setCell (p := ⟨BX, 1, none⟩) hb_BX (.int .i64 y.ways)).setCell (p := ⟨BX, 2, none⟩) hb_BX (.int .i64 y.clock)).setCell (p := ⟨BX, 3, none⟩) hb_BX (.slice B8 y.lines.length d8))
          go_wp2_with fail
          clear b0 b1 b2 b3 p0 p1 p2 p3
          generalize ((((w8.setCell ⟨BX, 0, none⟩ (.int .i64 y.sets)).setCell ⟨BX, 1, none⟩ (.int .i64 y.ways)).setCell ⟨BX, 2, none⟩ (.int .i64 y.clock)).setCell ⟨BX, 3, none⟩ (.slice B8 y.lines.length d8)) = W8 at *
          replace ownq := ownq.below (Below.refl _ _).drew
          replace own8 := own8.below (Below.refl _ _).drew
          replace AB := AB.below (Below.refl _ _).drew
          replace BB := BB.below (Below.refl _ _).drew
          replace MV := MV.below (Below.refl _ _).drew
          replace XV := XV.below (Below.refl _ _).drew
          replace bZ := bZ.drew
          have HC8 := HC0.out.below bZ
          obtain ⟨r, hr⟩ : ∃ r, rightC x = r := ⟨_, rfl⟩
          have cS := fun wz (hb : Below W8.drew.heap.size W8.drew wz) => same_any2 Bq B8 dq d8 y.lines.length y hsq hs8 wz (ownq.cin.below hb) (own8.cin.below hb) rfl HNY.out
          have cR1 := fun wz (hb : Below W8.drew.heap.size W8.drew wz) => right_any B d i x hs2 wz (MV.cin.below hb) HN.out HWF.out
          have cR2 := fun wz (hb : Below W8.drew.heap.size W8.drew wz) => rRight_any A c i x hs wz (HC8.below hb) HN.out
          have cT := fun wz (hb : Below W8.drew.heap.size W8.drew wz) => same_any2 B A d c i x hs2 hs wz (MV.cin.below hb) (HC8.below hb) HN.out hi6
          simp only [hr] at cR1 cR2
          have a0 := AB.cell 0 _ rfl
          have a1 := AB.cell 1 _ rfl
          have a2 := AB.cell 2 _ rfl
          have a3 := AB.cell 3 _ rfl
          have b0 := BB.cell 0 _ rfl
          have b1 := BB.cell 1 _ rfl
          have b2 := BB.cell 2 _ rfl
          have b3 := BB.cell 3 _ rfl
          have m0 := MV.V.cell 0 _ rfl
          have m1 := MV.V.cell 1 _ rfl
          have m2 := MV.V.cell 2 _ rfl
          have m3 := MV.V.cell 3 _ rfl
          have x0 := XV.cell 0 _ rfl
          have x1 := XV.cell 1 _ rfl
          have x2 := XV.cell 2 _ rfl
          have x3 := XV.cell 3 _ rfl
          refine wp_region_rg (by kernel_rfl) (by kernel_rfl) [163, 164, 165, 166, 167, 168, 169, 170, 171, 172, 173, 174, 175, 176, 177, 178, 179, 180, 181, 182, 12] (LaZPhi W8.drew y x Bq B8 B A dq d8 d c i kq r) ?h0 ⟨?q0, ?q1, ?q2, ?q3, ?q4, ?q5, ?q6, ?q7, ?q8, ?q9, ?q10, ?q11, ?q12, ?q13, ?q14, ?q15, ?q16, ?q17, ?q18, ?q19, ?q20, trivial⟩ ?hend
          case h0 => exact ⟨_, _, _, _, _, _, _, _, _, _, _, _, _, _, _, _, _, _, _, _, _, _, rfl, ⟨Below.refl _ _, (fun h => by cases h), (fun h => by cases h), (fun h => by cases h), (fun h => by cases h), (fun h => by cases h), (fun h => by cases h), (fun h => by cases h), (fun h => by cases h), (fun h => by cases h), (fun h => by cases h), (fun h => by cases h), (fun h => by cases h), (fun h => by cases h), (fun h => by cases h), (fun h => by cases h), (fun h => by cases h), (fun h => by cases h), (fun h => by cases h), (fun h => by cases h), (fun h => by cases h), (fun h => by cases h)⟩, rfl⟩
          case q0 =>
            rintro L vs w' K ⟨u163, u164, u165, u166, u167, u168, u169, u170, u171, u172, u173, u174, u175, u176, u177, u178, u179, u180, u181, u182, u12, wz, rfl, φ, rfl⟩ hL hpre hcl hK G hG
            simp [Region.binds, closedFrom] at hpre hcl
            have ce0 := (φ.b.cell (p := ⟨AX, 0, none⟩) (World.block_lt_of_cell? _ _ a0)).trans a0
            have ce1 := (φ.b.cell (p := ⟨AX, 1, none⟩) (World.block_lt_of_cell? _ _ a1)).trans a1
            have ce2 := (φ.b.cell (p := ⟨AX, 2, none⟩) (World.block_lt_of_cell? _ _ a2)).trans a2
            have ce3 := (φ.b.cell (p := ⟨AX, 3, none⟩) (World.block_lt_of_cell? _ _ a3)).trans a3
            have hk := hK [(.agg #[.int .i64 y.sets, .int .i64 y.ways, .int .i64 y.clock, .slice Bq y.lines.length dq]), u164, u165, u166, u167, u168, u169, u170, u171, u172, u173, u174, u175, u176, u177, u178, u179, u180, u181, u182, u12] wz ⟨_, _, _, _, _, _, _, _, _, _, _, _, _, _, _, _, _, _, _, _, _, wz, rfl,
              { b := φ.b,
                s0 := fun _ => rfl,
                s1 := fun h0 => φ.s1 (by simpa using h0),
                s2 := fun h0 => φ.s2 (by simpa using h0),
                s3 := fun h0 => φ.s3 (by simpa using h0),
                s4 := fun h0 => φ.s4 (by simpa using h0),
                s5 := fun h0 => φ.s5 (by simpa using h0),
                s6 := fun h0 => φ.s6 (by simpa using h0),
                s7 := fun h0 => φ.s7 (by simpa using h0),
                s8 := fun h0 => φ.s8 (by simpa using h0),
                s9 := fun h0 => φ.s9 (by simpa using h0),
                s10 := fun h0 => φ.s10 (by simpa using h0),
                s11 := fun h0 => φ.s11 (by simpa using h0),
                s12 := fun h0 => φ.s12 (by simpa using h0),
                s13 := fun h0 => φ.s13 (by simpa using h0),
                s14 := fun h0 => φ.s14 (by simpa using h0),
                s15 := fun h0 => φ.s15 (by simpa using h0),
                s16 := fun h0 => φ.s16 (by simpa using h0),
                s17 := fun h0 => φ.s17 (by simpa using h0),
                s18 := fun h0 => φ.s18 (by simpa using h0),
                s19 := fun h0 => φ.s19 (by simpa using h0),
                s20 := fun h0 => φ.s20 (by simpa using h0) }, rfl⟩
            refine hG ?_
            clear hK φ hG
            revert hk
            go_simp
            first | done | exact fun h => h
          case q1 =>
            rintro L vs w' K ⟨u163, u164, u165, u166, u167, u168, u169, u170, u171, u172, u173, u174, u175, u176, u177, u178, u179, u180, u181, u182, u12, wz, rfl, φ, rfl⟩ hL hpre hcl hK G hG
            simp [Region.binds, closedFrom] at hpre hcl
            have ce0 := (φ.b.cell (p := ⟨BX, 0, none⟩) (World.block_lt_of_cell? _ _ b0)).trans b0
            have ce1 := (φ.b.cell (p := ⟨BX, 1, none⟩) (World.block_lt_of_cell? _ _ b1)).trans b1
            have ce2 := (φ.b.cell (p := ⟨BX, 2, none⟩) (World.block_lt_of_cell? _ _ b2)).trans b2
            have ce3 := (φ.b.cell (p := ⟨BX, 3, none⟩) (World.block_lt_of_cell? _ _ b3)).trans b3
            have hk := hK [u163, (.agg #[.int .i64 y.sets, .int .i64 y.ways, .int .i64 y.clock, .slice B8 y.lines.length d8]), u165, u166, u167, u168, u169, u170, u171, u172, u173, u174, u175, u176, u177, u178, u179, u180, u181, u182, u12] wz ⟨_, _, _, _, _, _, _, _, _, _, _, _, _, _, _, _, _, _, _, _, _, wz, rfl,
              { b := φ.b,
                s0 := fun h0 => φ.s0 (by simpa using h0),
                s1 := fun _ => rfl,
                s2 := fun h0 => φ.s2 (by simpa using h0),
                s3 := fun h0 => φ.s3 (by simpa using h0),
                s4 := fun h0 => φ.s4 (by simpa using h0),
                s5 := fun h0 => φ.s5 (by simpa using h0),
                s6 := fun h0 => φ.s6 (by simpa using h0),
                s7 := fun h0 => φ.s7 (by simpa using h0),
                s8 := fun h0 => φ.s8 (by simpa using h0),
                s9 := fun h0 => φ.s9 (by simpa using h0),
                s10 := fun h0 => φ.s10 (by simpa using h0),
                s11 := fun h0 => φ.s11 (by simpa using h0),
                s12 := fun h0 => φ.s12 (by simpa using h0),
                s13 := fun h0 => φ.s13 (by simpa using h0),
                s14 := fun h0 => φ.s14 (by simpa using h0),
                s15 := fun h0 => φ.s15 (by simpa using h0),
                s16 := fun h0 => φ.s16 (by simpa using h0),
                s17 := fun h0 => φ.s17 (by simpa using h0),
                s18 := fun h0 => φ.s18 (by simpa using h0),
                s19 := fun h0 => φ.s19 (by simpa using h0),
                s20 := fun h0 => φ.s20 (by simpa using h0) }, rfl⟩
            refine hG ?_
            clear hK φ hG
            revert hk
            go_simp
            first | done | exact fun h => h
          case q2 =>
            rintro L vs w' K ⟨u163, u164, u165, u166, u167, u168, u169, u170, u171, u172, u173, u174, u175, u176, u177, u178, u179, u180, u181, u182, u12, wz, rfl, φ, rfl⟩ hL hpre hcl hK G hG
            simp [Region.binds, closedFrom] at hpre hcl
            have e0 := φ.s0 (by simp [hpre])
            subst e0
            have e1 := φ.s1 (by simp [hpre])
            subst e1
            refine hG (step_call wz rfl 17 #[.tmp 163, .tmp 164] #[26, 26] rfl #[.agg #[.int .i64 y.sets, .int .i64 y.ways, .int .i64 y.clock, .slice Bq y.lines.length dq], .agg #[.int .i64 y.sets, .int .i64 y.ways, .int .i64 y.clock, .slice B8 y.lines.length d8]] (by simp [Act.eval, Act.puts, Act.put]) (enters_of Try.func17 (by kernel_rfl) rfl) (cS wz φ.b) ?_)
            rintro e w9 ⟨rfl, hb9⟩
            refine ⟨_, rfl, ?_⟩
            have hk := hK [(.agg #[.int .i64 y.sets, .int .i64 y.ways, .int .i64 y.clock, .slice Bq y.lines.length dq]), (.agg #[.int .i64 y.sets, .int .i64 y.ways, .int .i64 y.clock, .slice B8 y.lines.length d8]), (.bool true), u166, u167, u168, u169, u170, u171, u172, u173, u174, u175, u176, u177, u178, u179, u180, u181, u182, u12] w9 ⟨_, _, _, _, _, _, _, _, _, _, _, _, _, _, _, _, _, _, _, _, _, w9, rfl,
              { b := φ.b.trans (hb9.mono φ.b.size),
                s0 := fun h0 => φ.s0 (by simpa using h0),
                s1 := fun h0 => φ.s1 (by simpa using h0),
                s2 := fun _ => rfl,
                s3 := fun h0 => φ.s3 (by simpa using h0),
                s4 := fun h0 => φ.s4 (by simpa using h0),
                s5 := fun h0 => φ.s5 (by simpa using h0),
                s6 := fun h0 => φ.s6 (by simpa using h0),
                s7 := fun h0 => φ.s7 (by simpa using h0),
                s8 := fun h0 => φ.s8 (by simpa using h0),
                s9 := fun h0 => φ.s9 (by simpa using h0),
                s10 := fun h0 => φ.s10 (by simpa using h0),
                s11 := fun h0 => φ.s11 (by simpa using h0),
                s12 := fun h0 => φ.s12 (by simpa using h0),
                s13 := fun h0 => φ.s13 (by simpa using h0),
                s14 := fun h0 => φ.s14 (by simpa using h0),
                s15 := fun h0 => φ.s15 (by simpa using h0),
                s16 := fun h0 => φ.s16 (by simpa using h0),
                s17 := fun h0 => φ.s17 (by simpa using h0),
                s18 := fun h0 => φ.s18 (by simpa using h0),
                s19 := fun h0 => φ.s19 (by simpa using h0),
                s20 := fun h0 => φ.s20 (by simpa using h0) }, rfl⟩
            clear hK φ hG
            revert hk
            go_simp
            first | done | exact fun h => h
          case q3 =>
            rintro L vs w' K ⟨u163, u164, u165, u166, u167, u168, u169, u170, u171, u172, u173, u174, u175, u176, u177, u178, u179, u180, u181, u182, u12, wz, rfl, φ, rfl⟩ hL hpre hcl hK G hG
            simp [Region.binds, closedFrom] at hpre hcl
            have e2 := φ.s2 (by simp [hpre])
            subst e2
            have hk := hK [u163, u164, (.bool true), (.bool true), u167, u168, u169, u170, u171, u172, u173, u174, u175, u176, u177, u178, u179, u180, u181, u182, u12] wz ⟨_, _, _, _, _, _, _, _, _, _, _, _, _, _, _, _, _, _, _, _, _, wz, rfl,
              { b := φ.b,
                s0 := fun h0 => φ.s0 (by simpa using h0),
                s1 := fun h0 => φ.s1 (by simpa using h0),
                s2 := fun h0 => φ.s2 (by simpa using h0),
                s3 := fun _ => rfl,
                s4 := fun h0 => φ.s4 (by simpa using h0),
                s5 := fun h0 => φ.s5 (by simpa using h0),
                s6 := fun h0 => φ.s6 (by simpa using h0),
                s7 := fun h0 => φ.s7 (by simpa using h0),
                s8 := fun h0 => φ.s8 (by simpa using h0),
                s9 := fun h0 => φ.s9 (by simpa using h0),
                s10 := fun h0 => φ.s10 (by simpa using h0),
                s11 := fun h0 => φ.s11 (by simpa using h0),
                s12 := fun h0 => φ.s12 (by simpa using h0),
                s13 := fun h0 => φ.s13 (by simpa using h0),
                s14 := fun h0 => φ.s14 (by simpa using h0),
                s15 := fun h0 => φ.s15 (by simpa using h0),
                s16 := fun h0 => φ.s16 (by simpa using h0),
                s17 := fun h0 => φ.s17 (by simpa using h0),
                s18 := fun h0 => φ.s18 (by simpa using h0),
                s19 := fun h0 => φ.s19 (by simpa using h0),
                s20 := fun h0 => φ.s20 (by simpa using h0) }, rfl⟩
            refine hG ?_
            clear hK φ hG
            revert hk
            go_simp
            first | done | exact fun h => h
          case q4 =>
            rintro L vs w' K ⟨u163, u164, u165, u166, u167, u168, u169, u170, u171, u172, u173, u174, u175, u176, u177, u178, u179, u180, u181, u182, u12, wz, rfl, φ, rfl⟩ hL hpre hcl hK G hG
            simp [Region.binds, closedFrom] at hpre hcl
            have e3 := φ.s3 (by simp [hpre])
            subst e3
            have hk := hK [u163, u164, u165, (.bool true), (.int .i64 kq), u168, u169, u170, u171, u172, u173, u174, u175, u176, u177, u178, u179, u180, u181, u182, u12] wz ⟨_, _, _, _, _, _, _, _, _, _, _, _, _, _, _, _, _, _, _, _, _, wz, rfl,
              { b := φ.b,
                s0 := fun h0 => φ.s0 (by simpa using h0),
                s1 := fun h0 => φ.s1 (by simpa using h0),
                s2 := fun h0 => φ.s2 (by simpa using h0),
                s3 := fun h0 => φ.s3 (by simpa using h0),
                s4 := fun _ => rfl,
                s5 := fun h0 => φ.s5 (by simpa using h0),
                s6 := fun h0 => φ.s6 (by simpa using h0),
                s7 := fun h0 => φ.s7 (by simpa using h0),
                s8 := fun h0 => φ.s8 (by simpa using h0),
                s9 := fun h0 => φ.s9 (by simpa using h0),
                s10 := fun h0 => φ.s10 (by simpa using h0),
                s11 := fun h0 => φ.s11 (by simpa using h0),
                s12 := fun h0 => φ.s12 (by simpa using h0),
                s13 := fun h0 => φ.s13 (by simpa using h0),
                s14 := fun h0 => φ.s14 (by simpa using h0),
                s15 := fun h0 => φ.s15 (by simpa using h0),
                s16 := fun h0 => φ.s16 (by simpa using h0),
                s17 := fun h0 => φ.s17 (by simpa using h0),
                s18 := fun h0 => φ.s18 (by simpa using h0),
                s19 := fun h0 => φ.s19 (by simpa using h0),
                s20 := fun h0 => φ.s20 (by simpa using h0) }, rfl⟩
            refine hG ?_
            clear hK φ hG
            revert hk
            simp only [yielded, Region.wanted]
            go_simp
            first | done | exact fun h => h
          case q5 =>
            rintro L vs w' K ⟨u163, u164, u165, u166, u167, u168, u169, u170, u171, u172, u173, u174, u175, u176, u177, u178, u179, u180, u181, u182, u12, wz, rfl, φ, rfl⟩ hL hpre hcl hK G hG
            simp [Region.binds, closedFrom] at hpre hcl
            have e3 := φ.s3 (by simp [hpre])
            subst e3
            have hk := hK [u163, u164, u165, (.bool true), u167, (.int .i64 kq), u169, u170, u171, u172, u173, u174, u175, u176, u177, u178, u179, u180, u181, u182, u12] wz ⟨_, _, _, _, _, _, _, _, _, _, _, _, _, _, _, _, _, _, _, _, _, wz, rfl,
              { b := φ.b,
                s0 := fun h0 => φ.s0 (by simpa using h0),
                s1 := fun h0 => φ.s1 (by simpa using h0),
                s2 := fun h0 => φ.s2 (by simpa using h0),
                s3 := fun h0 => φ.s3 (by simpa using h0),
                s4 := fun h0 => φ.s4 (by simpa using h0),
                s5 := fun _ => rfl,
                s6 := fun h0 => φ.s6 (by simpa using h0),
                s7 := fun h0 => φ.s7 (by simpa using h0),
                s8 := fun h0 => φ.s8 (by simpa using h0),
                s9 := fun h0 => φ.s9 (by simpa using h0),
                s10 := fun h0 => φ.s10 (by simpa using h0),
                s11 := fun h0 => φ.s11 (by simpa using h0),
                s12 := fun h0 => φ.s12 (by simpa using h0),
                s13 := fun h0 => φ.s13 (by simpa using h0),
                s14 := fun h0 => φ.s14 (by simpa using h0),
                s15 := fun h0 => φ.s15 (by simpa using h0),
                s16 := fun h0 => φ.s16 (by simpa using h0),
                s17 := fun h0 => φ.s17 (by simpa using h0),
                s18 := fun h0 => φ.s18 (by simpa using h0),
                s19 := fun h0 => φ.s19 (by simpa using h0),
                s20 := fun h0 => φ.s20 (by simpa using h0) }, rfl⟩
            refine hG ?_
            clear hK φ hG
            revert hk
            simp only [yielded, Region.wanted]
            go_simp
            first | done | exact fun h => h
          case q6 =>
            rintro L vs w' K ⟨u163, u164, u165, u166, u167, u168, u169, u170, u171, u172, u173, u174, u175, u176, u177, u178, u179, u180, u181, u182, u12, wz, rfl, φ, rfl⟩ hL hpre hcl hK G hG
            simp [Region.binds, closedFrom] at hpre hcl
            have e3 := φ.s3 (by simp [hpre])
            subst e3
            have e4 := φ.s4 (by simp [hpre])
            subst e4
            have e5 := φ.s5 (by simp [hpre])
            subst e5
            have hk := hK [u163, u164, u165, (.bool true), (.int .i64 kq), (.int .i64 kq), (.bool true), u170, u171, u172, u173, u174, u175, u176, u177, u178, u179, u180, u181, u182, u12] wz ⟨_, _, _, _, _, _, _, _, _, _, _, _, _, _, _, _, _, _, _, _, _, wz, rfl,
              { b := φ.b,
                s0 := fun h0 => φ.s0 (by simpa using h0),
                s1 := fun h0 => φ.s1 (by simpa using h0),
                s2 := fun h0 => φ.s2 (by simpa using h0),
                s3 := fun h0 => φ.s3 (by simpa using h0),
                s4 := fun h0 => φ.s4 (by simpa using h0),
                s5 := fun h0 => φ.s5 (by simpa using h0),
                s6 := fun _ => rfl,
                s7 := fun h0 => φ.s7 (by simpa using h0),
                s8 := fun h0 => φ.s8 (by simpa using h0),
                s9 := fun h0 => φ.s9 (by simpa using h0),
                s10 := fun h0 => φ.s10 (by simpa using h0),
                s11 := fun h0 => φ.s11 (by simpa using h0),
                s12 := fun h0 => φ.s12 (by simpa using h0),
                s13 := fun h0 => φ.s13 (by simpa using h0),
                s14 := fun h0 => φ.s14 (by simpa using h0),
                s15 := fun h0 => φ.s15 (by simpa using h0),
                s16 := fun h0 => φ.s16 (by simpa using h0),
                s17 := fun h0 => φ.s17 (by simpa using h0),
                s18 := fun h0 => φ.s18 (by simpa using h0),
                s19 := fun h0 => φ.s19 (by simpa using h0),
                s20 := fun h0 => φ.s20 (by simpa using h0) }, rfl⟩
            refine hG ?_
            clear hK φ hG
            revert hk
            simp only [yielded, Region.wanted]
            go_simp
            first | done | exact fun h => h
          case q7 =>
            rintro L vs w' K ⟨u163, u164, u165, u166, u167, u168, u169, u170, u171, u172, u173, u174, u175, u176, u177, u178, u179, u180, u181, u182, u12, wz, rfl, φ, rfl⟩ hL hpre hcl hK G hG
            simp [Region.binds, closedFrom] at hpre hcl
            have e3 := φ.s3 (by simp [hpre])
            subst e3
            have e6 := φ.s6 (by simp [hpre])
            subst e6
            have hk := hK [u163, u164, u165, (.bool true), u167, u168, (.bool true), (.bool true), u171, u172, u173, u174, u175, u176, u177, u178, u179, u180, u181, u182, u12] wz ⟨_, _, _, _, _, _, _, _, _, _, _, _, _, _, _, _, _, _, _, _, _, wz, rfl,
              { b := φ.b,
                s0 := fun h0 => φ.s0 (by simpa using h0),
                s1 := fun h0 => φ.s1 (by simpa using h0),
                s2 := fun h0 => φ.s2 (by simpa using h0),
                s3 := fun h0 => φ.s3 (by simpa using h0),
                s4 := fun h0 => φ.s4 (by simpa using h0),
                s5 := fun h0 => φ.s5 (by simpa using h0),
                s6 := fun h0 => φ.s6 (by simpa using h0),
                s7 := fun _ => rfl,
                s8 := fun h0 => φ.s8 (by simpa using h0),
                s9 := fun h0 => φ.s9 (by simpa using h0),
                s10 := fun h0 => φ.s10 (by simpa using h0),
                s11 := fun h0 => φ.s11 (by simpa using h0),
                s12 := fun h0 => φ.s12 (by simpa using h0),
                s13 := fun h0 => φ.s13 (by simpa using h0),
                s14 := fun h0 => φ.s14 (by simpa using h0),
                s15 := fun h0 => φ.s15 (by simpa using h0),
                s16 := fun h0 => φ.s16 (by simpa using h0),
                s17 := fun h0 => φ.s17 (by simpa using h0),
                s18 := fun h0 => φ.s18 (by simpa using h0),
                s19 := fun h0 => φ.s19 (by simpa using h0),
                s20 := fun h0 => φ.s20 (by simpa using h0) }, rfl⟩
            refine hG ?_
            clear hK φ hG
            revert hk
            go_simp
            first | done | exact fun h => h
          case q8 =>
            rintro L vs w' K ⟨u163, u164, u165, u166, u167, u168, u169, u170, u171, u172, u173, u174, u175, u176, u177, u178, u179, u180, u181, u182, u12, wz, rfl, φ, rfl⟩ hL hpre hcl hK G hG
            simp [Region.binds, closedFrom] at hpre hcl
            have e7 := φ.s7 (by simp [hpre])
            subst e7
            have hk := hK [u163, u164, u165, u166, u167, u168, u169, (.bool true), (.bool true), u172, u173, u174, u175, u176, u177, u178, u179, u180, u181, u182, u12] wz ⟨_, _, _, _, _, _, _, _, _, _, _, _, _, _, _, _, _, _, _, _, _, wz, rfl,
              { b := φ.b,
                s0 := fun h0 => φ.s0 (by simpa using h0),
                s1 := fun h0 => φ.s1 (by simpa using h0),
                s2 := fun h0 => φ.s2 (by simpa using h0),
                s3 := fun h0 => φ.s3 (by simpa using h0),
                s4 := fun h0 => φ.s4 (by simpa using h0),
                s5 := fun h0 => φ.s5 (by simpa using h0),
                s6 := fun h0 => φ.s6 (by simpa using h0),
                s7 := fun h0 => φ.s7 (by simpa using h0),
                s8 := fun _ => rfl,
                s9 := fun h0 => φ.s9 (by simpa using h0),
                s10 := fun h0 => φ.s10 (by simpa using h0),
                s11 := fun h0 => φ.s11 (by simpa using h0),
                s12 := fun h0 => φ.s12 (by simpa using h0),
                s13 := fun h0 => φ.s13 (by simpa using h0),
                s14 := fun h0 => φ.s14 (by simpa using h0),
                s15 := fun h0 => φ.s15 (by simpa using h0),
                s16 := fun h0 => φ.s16 (by simpa using h0),
                s17 := fun h0 => φ.s17 (by simpa using h0),
                s18 := fun h0 => φ.s18 (by simpa using h0),
                s19 := fun h0 => φ.s19 (by simpa using h0),
                s20 := fun h0 => φ.s20 (by simpa using h0) }, rfl⟩
            refine hG ?_
            clear hK φ hG
            revert hk
            go_simp
            first | done | exact fun h => h
          case q9 =>
            rintro L vs w' K ⟨u163, u164, u165, u166, u167, u168, u169, u170, u171, u172, u173, u174, u175, u176, u177, u178, u179, u180, u181, u182, u12, wz, rfl, φ, rfl⟩ hL hpre hcl hK G hG
            simp [Region.binds, closedFrom] at hpre hcl
            have e8 := φ.s8 (by simp [hpre])
            subst e8
            have ce0 := (φ.b.cell (p := ⟨MX, 0, none⟩) (World.block_lt_of_cell? _ _ m0)).trans m0
            have ce1 := (φ.b.cell (p := ⟨MX, 1, none⟩) (World.block_lt_of_cell? _ _ m1)).trans m1
            have ce2 := (φ.b.cell (p := ⟨MX, 2, none⟩) (World.block_lt_of_cell? _ _ m2)).trans m2
            have ce3 := (φ.b.cell (p := ⟨MX, 3, none⟩) (World.block_lt_of_cell? _ _ m3)).trans m3
            have hk := hK [u163, u164, u165, u166, u167, u168, u169, u170, (.bool true), (.agg #[.int .i64 x.sets, .int .i64 x.ways, .int .i64 x.clock, .slice B i d]), u173, u174, u175, u176, u177, u178, u179, u180, u181, u182, u12] wz ⟨_, _, _, _, _, _, _, _, _, _, _, _, _, _, _, _, _, _, _, _, _, wz, rfl,
              { b := φ.b,
                s0 := fun h0 => φ.s0 (by simpa using h0),
                s1 := fun h0 => φ.s1 (by simpa using h0),
                s2 := fun h0 => φ.s2 (by simpa using h0),
                s3 := fun h0 => φ.s3 (by simpa using h0),
                s4 := fun h0 => φ.s4 (by simpa using h0),
                s5 := fun h0 => φ.s5 (by simpa using h0),
                s6 := fun h0 => φ.s6 (by simpa using h0),
                s7 := fun h0 => φ.s7 (by simpa using h0),
                s8 := fun h0 => φ.s8 (by simpa using h0),
                s9 := fun _ => rfl,
                s10 := fun h0 => φ.s10 (by simpa using h0),
                s11 := fun h0 => φ.s11 (by simpa using h0),
                s12 := fun h0 => φ.s12 (by simpa using h0),
                s13 := fun h0 => φ.s13 (by simpa using h0),
                s14 := fun h0 => φ.s14 (by simpa using h0),
                s15 := fun h0 => φ.s15 (by simpa using h0),
                s16 := fun h0 => φ.s16 (by simpa using h0),
                s17 := fun h0 => φ.s17 (by simpa using h0),
                s18 := fun h0 => φ.s18 (by simpa using h0),
                s19 := fun h0 => φ.s19 (by simpa using h0),
                s20 := fun h0 => φ.s20 (by simpa using h0) }, rfl⟩
            refine hG ?_
            clear hK φ hG
            revert hk
            simp only [yielded, Region.wanted]
            go_simp
            first | done | exact fun h => h
          case q10 =>
            rintro L vs w' K ⟨u163, u164, u165, u166, u167, u168, u169, u170, u171, u172, u173, u174, u175, u176, u177, u178, u179, u180, u181, u182, u12, wz, rfl, φ, rfl⟩ hL hpre hcl hK G hG
            simp [Region.binds, closedFrom] at hpre hcl
            have e8 := φ.s8 (by simp [hpre])
            subst e8
            have e9 := φ.s9 (by simp [hpre])
            subst e9
            refine step_callg hG wz (by simp only [yielded, Region.wanted]; go_simp) 22 #[.tmp 172] #[26] rfl #[.agg #[.int .i64 x.sets, .int .i64 x.ways, .int .i64 x.clock, .slice B i d]] (by simp [Act.eval, Act.puts, Act.put]) (enters_of Try.func22 (by kernel_rfl) rfl) (cR1 wz φ.b) ?_
            rintro e w9 ⟨rfl, hb9⟩
            refine ⟨_, rfl, ?_⟩
            have hk := hK [u163, u164, u165, u166, u167, u168, u169, u170, (.bool true), (.agg #[.int .i64 x.sets, .int .i64 x.ways, .int .i64 x.clock, .slice B i d]), (.bool r), u174, u175, u176, u177, u178, u179, u180, u181, u182, u12] w9 ⟨_, _, _, _, _, _, _, _, _, _, _, _, _, _, _, _, _, _, _, _, _, w9, rfl,
              { b := φ.b.trans (hb9.mono φ.b.size),
                s0 := fun h0 => φ.s0 (by simpa using h0),
                s1 := fun h0 => φ.s1 (by simpa using h0),
                s2 := fun h0 => φ.s2 (by simpa using h0),
                s3 := fun h0 => φ.s3 (by simpa using h0),
                s4 := fun h0 => φ.s4 (by simpa using h0),
                s5 := fun h0 => φ.s5 (by simpa using h0),
                s6 := fun h0 => φ.s6 (by simpa using h0),
                s7 := fun h0 => φ.s7 (by simpa using h0),
                s8 := fun h0 => φ.s8 (by simpa using h0),
                s9 := fun h0 => φ.s9 (by simpa using h0),
                s10 := fun _ => rfl,
                s11 := fun h0 => φ.s11 (by simpa using h0),
                s12 := fun h0 => φ.s12 (by simpa using h0),
                s13 := fun h0 => φ.s13 (by simpa using h0),
                s14 := fun h0 => φ.s14 (by simpa using h0),
                s15 := fun h0 => φ.s15 (by simpa using h0),
                s16 := fun h0 => φ.s16 (by simpa using h0),
                s17 := fun h0 => φ.s17 (by simpa using h0),
                s18 := fun h0 => φ.s18 (by simpa using h0),
                s19 := fun h0 => φ.s19 (by simpa using h0),
                s20 := fun h0 => φ.s20 (by simpa using h0) }, rfl⟩
            clear hK φ hG
            revert hk
            go_simp
            first | done | exact fun h => h
          case q11 =>
            rintro L vs w' K ⟨u163, u164, u165, u166, u167, u168, u169, u170, u171, u172, u173, u174, u175, u176, u177, u178, u179, u180, u181, u182, u12, wz, rfl, φ, rfl⟩ hL hpre hcl hK G hG
            simp [Region.binds, closedFrom] at hpre hcl
            have e8 := φ.s8 (by simp [hpre])
            subst e8
            have ce0 := (φ.b.cell (p := ⟨CX, 0, none⟩) (World.block_lt_of_cell? _ _ x0)).trans x0
            have ce1 := (φ.b.cell (p := ⟨CX, 1, none⟩) (World.block_lt_of_cell? _ _ x1)).trans x1
            have ce2 := (φ.b.cell (p := ⟨CX, 2, none⟩) (World.block_lt_of_cell? _ _ x2)).trans x2
            have ce3 := (φ.b.cell (p := ⟨CX, 3, none⟩) (World.block_lt_of_cell? _ _ x3)).trans x3
            have hk := hK [u163, u164, u165, u166, u167, u168, u169, u170, (.bool true), u172, u173, (.agg #[.int .i64 x.sets, .int .i64 x.ways, .int .i64 x.clock, .slice A i c]), u175, u176, u177, u178, u179, u180, u181, u182, u12] wz ⟨_, _, _, _, _, _, _, _, _, _, _, _, _, _, _, _, _, _, _, _, _, wz, rfl,
              { b := φ.b,
                s0 := fun h0 => φ.s0 (by simpa using h0),
                s1 := fun h0 => φ.s1 (by simpa using h0),
                s2 := fun h0 => φ.s2 (by simpa using h0),
                s3 := fun h0 => φ.s3 (by simpa using h0),
                s4 := fun h0 => φ.s4 (by simpa using h0),
                s5 := fun h0 => φ.s5 (by simpa using h0),
                s6 := fun h0 => φ.s6 (by simpa using h0),
                s7 := fun h0 => φ.s7 (by simpa using h0),
                s8 := fun h0 => φ.s8 (by simpa using h0),
                s9 := fun h0 => φ.s9 (by simpa using h0),
                s10 := fun h0 => φ.s10 (by simpa using h0),
                s11 := fun _ => rfl,
                s12 := fun h0 => φ.s12 (by simpa using h0),
                s13 := fun h0 => φ.s13 (by simpa using h0),
                s14 := fun h0 => φ.s14 (by simpa using h0),
                s15 := fun h0 => φ.s15 (by simpa using h0),
                s16 := fun h0 => φ.s16 (by simpa using h0),
                s17 := fun h0 => φ.s17 (by simpa using h0),
                s18 := fun h0 => φ.s18 (by simpa using h0),
                s19 := fun h0 => φ.s19 (by simpa using h0),
                s20 := fun h0 => φ.s20 (by simpa using h0) }, rfl⟩
            refine hG ?_
            clear hK φ hG
            revert hk
            simp only [yielded, Region.wanted]
            go_simp
            first | done | exact fun h => h
          case q12 =>
            rintro L vs w' K ⟨u163, u164, u165, u166, u167, u168, u169, u170, u171, u172, u173, u174, u175, u176, u177, u178, u179, u180, u181, u182, u12, wz, rfl, φ, rfl⟩ hL hpre hcl hK G hG
            simp [Region.binds, closedFrom] at hpre hcl
            have e8 := φ.s8 (by simp [hpre])
            subst e8
            have e11 := φ.s11 (by simp [hpre])
            subst e11
            refine step_callg hG wz (by simp only [yielded, Region.wanted]; go_simp) 23 #[.tmp 174] #[26] rfl #[.agg #[.int .i64 x.sets, .int .i64 x.ways, .int .i64 x.clock, .slice A i c]] (by simp [Act.eval, Act.puts, Act.put]) (enters_of Try.func23 (by kernel_rfl) rfl) (cR2 wz φ.b) ?_
            rintro e w9 ⟨rfl, hb9⟩
            refine ⟨_, rfl, ?_⟩
            have hk := hK [u163, u164, u165, u166, u167, u168, u169, u170, (.bool true), u172, u173, (.agg #[.int .i64 x.sets, .int .i64 x.ways, .int .i64 x.clock, .slice A i c]), (.bool r), u176, u177, u178, u179, u180, u181, u182, u12] w9 ⟨_, _, _, _, _, _, _, _, _, _, _, _, _, _, _, _, _, _, _, _, _, w9, rfl,
              { b := φ.b.trans (hb9.mono φ.b.size),
                s0 := fun h0 => φ.s0 (by simpa using h0),
                s1 := fun h0 => φ.s1 (by simpa using h0),
                s2 := fun h0 => φ.s2 (by simpa using h0),
                s3 := fun h0 => φ.s3 (by simpa using h0),
                s4 := fun h0 => φ.s4 (by simpa using h0),
                s5 := fun h0 => φ.s5 (by simpa using h0),
                s6 := fun h0 => φ.s6 (by simpa using h0),
                s7 := fun h0 => φ.s7 (by simpa using h0),
                s8 := fun h0 => φ.s8 (by simpa using h0),
                s9 := fun h0 => φ.s9 (by simpa using h0),
                s10 := fun h0 => φ.s10 (by simpa using h0),
                s11 := fun h0 => φ.s11 (by simpa using h0),
                s12 := fun _ => rfl,
                s13 := fun h0 => φ.s13 (by simpa using h0),
                s14 := fun h0 => φ.s14 (by simpa using h0),
                s15 := fun h0 => φ.s15 (by simpa using h0),
                s16 := fun h0 => φ.s16 (by simpa using h0),
                s17 := fun h0 => φ.s17 (by simpa using h0),
                s18 := fun h0 => φ.s18 (by simpa using h0),
                s19 := fun h0 => φ.s19 (by simpa using h0),
                s20 := fun h0 => φ.s20 (by simpa using h0) }, rfl⟩
            clear hK φ hG
            revert hk
            go_simp
            first | done | exact fun h => h
          case q13 =>
            rintro L vs w' K ⟨u163, u164, u165, u166, u167, u168, u169, u170, u171, u172, u173, u174, u175, u176, u177, u178, u179, u180, u181, u182, u12, wz, rfl, φ, rfl⟩ hL hpre hcl hK G hG
            simp [Region.binds, closedFrom] at hpre hcl
            have e8 := φ.s8 (by simp [hpre])
            subst e8
            have e10 := φ.s10 (by simp [hpre])
            subst e10
            have e12 := φ.s12 (by simp [hpre])
            subst e12
            have hk := hK [u163, u164, u165, u166, u167, u168, u169, u170, (.bool true), u172, (.bool r), u174, (.bool r), (.bool true), u177, u178, u179, u180, u181, u182, u12] wz ⟨_, _, _, _, _, _, _, _, _, _, _, _, _, _, _, _, _, _, _, _, _, wz, rfl,
              { b := φ.b,
                s0 := fun h0 => φ.s0 (by simpa using h0),
                s1 := fun h0 => φ.s1 (by simpa using h0),
                s2 := fun h0 => φ.s2 (by simpa using h0),
                s3 := fun h0 => φ.s3 (by simpa using h0),
                s4 := fun h0 => φ.s4 (by simpa using h0),
                s5 := fun h0 => φ.s5 (by simpa using h0),
                s6 := fun h0 => φ.s6 (by simpa using h0),
                s7 := fun h0 => φ.s7 (by simpa using h0),
                s8 := fun h0 => φ.s8 (by simpa using h0),
                s9 := fun h0 => φ.s9 (by simpa using h0),
                s10 := fun h0 => φ.s10 (by simpa using h0),
                s11 := fun h0 => φ.s11 (by simpa using h0),
                s12 := fun h0 => φ.s12 (by simpa using h0),
                s13 := fun _ => rfl,
                s14 := fun h0 => φ.s14 (by simpa using h0),
                s15 := fun h0 => φ.s15 (by simpa using h0),
                s16 := fun h0 => φ.s16 (by simpa using h0),
                s17 := fun h0 => φ.s17 (by simpa using h0),
                s18 := fun h0 => φ.s18 (by simpa using h0),
                s19 := fun h0 => φ.s19 (by simpa using h0),
                s20 := fun h0 => φ.s20 (by simpa using h0) }, rfl⟩
            refine hG ?_
            clear hK φ hG
            revert hk
            simp only [yielded, Region.wanted]
            go_simp
            first | done | exact fun h => h
          case q14 =>
            rintro L vs w' K ⟨u163, u164, u165, u166, u167, u168, u169, u170, u171, u172, u173, u174, u175, u176, u177, u178, u179, u180, u181, u182, u12, wz, rfl, φ, rfl⟩ hL hpre hcl hK G hG
            simp [Region.binds, closedFrom] at hpre hcl
            have e8 := φ.s8 (by simp [hpre])
            subst e8
            have e13 := φ.s13 (by simp [hpre])
            subst e13
            have hk := hK [u163, u164, u165, u166, u167, u168, u169, u170, (.bool true), u172, u173, u174, u175, (.bool true), (.bool true), u178, u179, u180, u181, u182, u12] wz ⟨_, _, _, _, _, _, _, _, _, _, _, _, _, _, _, _, _, _, _, _, _, wz, rfl,
              { b := φ.b,
                s0 := fun h0 => φ.s0 (by simpa using h0),
                s1 := fun h0 => φ.s1 (by simpa using h0),
                s2 := fun h0 => φ.s2 (by simpa using h0),
                s3 := fun h0 => φ.s3 (by simpa using h0),
                s4 := fun h0 => φ.s4 (by simpa using h0),
                s5 := fun h0 => φ.s5 (by simpa using h0),
                s6 := fun h0 => φ.s6 (by simpa using h0),
                s7 := fun h0 => φ.s7 (by simpa using h0),
                s8 := fun h0 => φ.s8 (by simpa using h0),
                s9 := fun h0 => φ.s9 (by simpa using h0),
                s10 := fun h0 => φ.s10 (by simpa using h0),
                s11 := fun h0 => φ.s11 (by simpa using h0),
                s12 := fun h0 => φ.s12 (by simpa using h0),
                s13 := fun h0 => φ.s13 (by simpa using h0),
                s14 := fun _ => rfl,
                s15 := fun h0 => φ.s15 (by simpa using h0),
                s16 := fun h0 => φ.s16 (by simpa using h0),
                s17 := fun h0 => φ.s17 (by simpa using h0),
                s18 := fun h0 => φ.s18 (by simpa using h0),
                s19 := fun h0 => φ.s19 (by simpa using h0),
                s20 := fun h0 => φ.s20 (by simpa using h0) }, rfl⟩
            refine hG ?_
            clear hK φ hG
            revert hk
            go_simp
            first | done | exact fun h => h
          case q15 =>
            rintro L vs w' K ⟨u163, u164, u165, u166, u167, u168, u169, u170, u171, u172, u173, u174, u175, u176, u177, u178, u179, u180, u181, u182, u12, wz, rfl, φ, rfl⟩ hL hpre hcl hK G hG
            simp [Region.binds, closedFrom] at hpre hcl
            have e14 := φ.s14 (by simp [hpre])
            subst e14
            have hk := hK [u163, u164, u165, u166, u167, u168, u169, u170, u171, u172, u173, u174, u175, u176, (.bool true), (.bool true), u179, u180, u181, u182, u12] wz ⟨_, _, _, _, _, _, _, _, _, _, _, _, _, _, _, _, _, _, _, _, _, wz, rfl,
              { b := φ.b,
                s0 := fun h0 => φ.s0 (by simpa using h0),
                s1 := fun h0 => φ.s1 (by simpa using h0),
                s2 := fun h0 => φ.s2 (by simpa using h0),
                s3 := fun h0 => φ.s3 (by simpa using h0),
                s4 := fun h0 => φ.s4 (by simpa using h0),
                s5 := fun h0 => φ.s5 (by simpa using h0),
                s6 := fun h0 => φ.s6 (by simpa using h0),
                s7 := fun h0 => φ.s7 (by simpa using h0),
                s8 := fun h0 => φ.s8 (by simpa using h0),
                s9 := fun h0 => φ.s9 (by simpa using h0),
                s10 := fun h0 => φ.s10 (by simpa using h0),
                s11 := fun h0 => φ.s11 (by simpa using h0),
                s12 := fun h0 => φ.s12 (by simpa using h0),
                s13 := fun h0 => φ.s13 (by simpa using h0),
                s14 := fun h0 => φ.s14 (by simpa using h0),
                s15 := fun _ => rfl,
                s16 := fun h0 => φ.s16 (by simpa using h0),
                s17 := fun h0 => φ.s17 (by simpa using h0),
                s18 := fun h0 => φ.s18 (by simpa using h0),
                s19 := fun h0 => φ.s19 (by simpa using h0),
                s20 := fun h0 => φ.s20 (by simpa using h0) }, rfl⟩
            refine hG ?_
            clear hK φ hG
            revert hk
            go_simp
            first | done | exact fun h => h
          case q16 =>
            rintro L vs w' K ⟨u163, u164, u165, u166, u167, u168, u169, u170, u171, u172, u173, u174, u175, u176, u177, u178, u179, u180, u181, u182, u12, wz, rfl, φ, rfl⟩ hL hpre hcl hK G hG
            simp [Region.binds, closedFrom] at hpre hcl
            have e15 := φ.s15 (by simp [hpre])
            subst e15
            have ce0 := (φ.b.cell (p := ⟨MX, 0, none⟩) (World.block_lt_of_cell? _ _ m0)).trans m0
            have ce1 := (φ.b.cell (p := ⟨MX, 1, none⟩) (World.block_lt_of_cell? _ _ m1)).trans m1
            have ce2 := (φ.b.cell (p := ⟨MX, 2, none⟩) (World.block_lt_of_cell? _ _ m2)).trans m2
            have ce3 := (φ.b.cell (p := ⟨MX, 3, none⟩) (World.block_lt_of_cell? _ _ m3)).trans m3
            have hk := hK [u163, u164, u165, u166, u167, u168, u169, u170, u171, u172, u173, u174, u175, u176, u177, (.bool true), (.agg #[.int .i64 x.sets, .int .i64 x.ways, .int .i64 x.clock, .slice B i d]), u180, u181, u182, u12] wz ⟨_, _, _, _, _, _, _, _, _, _, _, _, _, _, _, _, _, _, _, _, _, wz, rfl,
              { b := φ.b,
                s0 := fun h0 => φ.s0 (by simpa using h0),
                s1 := fun h0 => φ.s1 (by simpa using h0),
                s2 := fun h0 => φ.s2 (by simpa using h0),
                s3 := fun h0 => φ.s3 (by simpa using h0),
                s4 := fun h0 => φ.s4 (by simpa using h0),
                s5 := fun h0 => φ.s5 (by simpa using h0),
                s6 := fun h0 => φ.s6 (by simpa using h0),
                s7 := fun h0 => φ.s7 (by simpa using h0),
                s8 := fun h0 => φ.s8 (by simpa using h0),
                s9 := fun h0 => φ.s9 (by simpa using h0),
                s10 := fun h0 => φ.s10 (by simpa using h0),
                s11 := fun h0 => φ.s11 (by simpa using h0),
                s12 := fun h0 => φ.s12 (by simpa using h0),
                s13 := fun h0 => φ.s13 (by simpa using h0),
                s14 := fun h0 => φ.s14 (by simpa using h0),
                s15 := fun h0 => φ.s15 (by simpa using h0),
                s16 := fun _ => rfl,
                s17 := fun h0 => φ.s17 (by simpa using h0),
                s18 := fun h0 => φ.s18 (by simpa using h0),
                s19 := fun h0 => φ.s19 (by simpa using h0),
                s20 := fun h0 => φ.s20 (by simpa using h0) }, rfl⟩
            refine hG ?_
            clear hK φ hG
            revert hk
            simp only [yielded, Region.wanted]
            go_simp
            first | done | exact fun h => h
          case q17 =>
            rintro L vs w' K ⟨u163, u164, u165, u166, u167, u168, u169, u170, u171, u172, u173, u174, u175, u176, u177, u178, u179, u180, u181, u182, u12, wz, rfl, φ, rfl⟩ hL hpre hcl hK G hG
            simp [Region.binds, closedFrom] at hpre hcl
            have e15 := φ.s15 (by simp [hpre])
            subst e15
            have ce0 := (φ.b.cell (p := ⟨CX, 0, none⟩) (World.block_lt_of_cell? _ _ x0)).trans x0
            have ce1 := (φ.b.cell (p := ⟨CX, 1, none⟩) (World.block_lt_of_cell? _ _ x1)).trans x1
            have ce2 := (φ.b.cell (p := ⟨CX, 2, none⟩) (World.block_lt_of_cell? _ _ x2)).trans x2
            have ce3 := (φ.b.cell (p := ⟨CX, 3, none⟩) (World.block_lt_of_cell? _ _ x3)).trans x3
            have hk := hK [u163, u164, u165, u166, u167, u168, u169, u170, u171, u172, u173, u174, u175, u176, u177, (.bool true), u179, (.agg #[.int .i64 x.sets, .int .i64 x.ways, .int .i64 x.clock, .slice A i c]), u181, u182, u12] wz ⟨_, _, _, _, _, _, _, _, _, _, _, _, _, _, _, _, _, _, _, _, _, wz, rfl,
              { b := φ.b,
                s0 := fun h0 => φ.s0 (by simpa using h0),
                s1 := fun h0 => φ.s1 (by simpa using h0),
                s2 := fun h0 => φ.s2 (by simpa using h0),
                s3 := fun h0 => φ.s3 (by simpa using h0),
                s4 := fun h0 => φ.s4 (by simpa using h0),
                s5 := fun h0 => φ.s5 (by simpa using h0),
                s6 := fun h0 => φ.s6 (by simpa using h0),
                s7 := fun h0 => φ.s7 (by simpa using h0),
                s8 := fun h0 => φ.s8 (by simpa using h0),
                s9 := fun h0 => φ.s9 (by simpa using h0),
                s10 := fun h0 => φ.s10 (by simpa using h0),
                s11 := fun h0 => φ.s11 (by simpa using h0),
                s12 := fun h0 => φ.s12 (by simpa using h0),
                s13 := fun h0 => φ.s13 (by simpa using h0),
                s14 := fun h0 => φ.s14 (by simpa using h0),
                s15 := fun h0 => φ.s15 (by simpa using h0),
                s16 := fun h0 => φ.s16 (by simpa using h0),
                s17 := fun _ => rfl,
                s18 := fun h0 => φ.s18 (by simpa using h0),
                s19 := fun h0 => φ.s19 (by simpa using h0),
                s20 := fun h0 => φ.s20 (by simpa using h0) }, rfl⟩
            refine hG ?_
            clear hK φ hG
            revert hk
            simp only [yielded, Region.wanted]
            go_simp
            first | done | exact fun h => h
          case q18 =>
            rintro L vs w' K ⟨u163, u164, u165, u166, u167, u168, u169, u170, u171, u172, u173, u174, u175, u176, u177, u178, u179, u180, u181, u182, u12, wz, rfl, φ, rfl⟩ hL hpre hcl hK G hG
            simp [Region.binds, closedFrom] at hpre hcl
            have e15 := φ.s15 (by simp [hpre])
            subst e15
            have e16 := φ.s16 (by simp [hpre])
            subst e16
            have e17 := φ.s17 (by simp [hpre])
            subst e17
            refine step_callg hG wz (by simp only [yielded, Region.wanted]; go_simp) 17 #[.tmp 179, .tmp 180] #[26, 26] rfl #[.agg #[.int .i64 x.sets, .int .i64 x.ways, .int .i64 x.clock, .slice B i d], .agg #[.int .i64 x.sets, .int .i64 x.ways, .int .i64 x.clock, .slice A i c]] (by simp [Act.eval, Act.puts, Act.put]) (enters_of Try.func17 (by kernel_rfl) rfl) (cT wz φ.b) ?_
            rintro e w9 ⟨rfl, hb9⟩
            refine ⟨_, rfl, ?_⟩
            have hk := hK [u163, u164, u165, u166, u167, u168, u169, u170, u171, u172, u173, u174, u175, u176, u177, (.bool true), (.agg #[.int .i64 x.sets, .int .i64 x.ways, .int .i64 x.clock, .slice B i d]), (.agg #[.int .i64 x.sets, .int .i64 x.ways, .int .i64 x.clock, .slice A i c]), (.bool true), u182, u12] w9 ⟨_, _, _, _, _, _, _, _, _, _, _, _, _, _, _, _, _, _, _, _, _, w9, rfl,
              { b := φ.b.trans (hb9.mono φ.b.size),
                s0 := fun h0 => φ.s0 (by simpa using h0),
                s1 := fun h0 => φ.s1 (by simpa using h0),
                s2 := fun h0 => φ.s2 (by simpa using h0),
                s3 := fun h0 => φ.s3 (by simpa using h0),
                s4 := fun h0 => φ.s4 (by simpa using h0),
                s5 := fun h0 => φ.s5 (by simpa using h0),
                s6 := fun h0 => φ.s6 (by simpa using h0),
                s7 := fun h0 => φ.s7 (by simpa using h0),
                s8 := fun h0 => φ.s8 (by simpa using h0),
                s9 := fun h0 => φ.s9 (by simpa using h0),
                s10 := fun h0 => φ.s10 (by simpa using h0),
                s11 := fun h0 => φ.s11 (by simpa using h0),
                s12 := fun h0 => φ.s12 (by simpa using h0),
                s13 := fun h0 => φ.s13 (by simpa using h0),
                s14 := fun h0 => φ.s14 (by simpa using h0),
                s15 := fun h0 => φ.s15 (by simpa using h0),
                s16 := fun h0 => φ.s16 (by simpa using h0),
                s17 := fun h0 => φ.s17 (by simpa using h0),
                s18 := fun _ => rfl,
                s19 := fun h0 => φ.s19 (by simpa using h0),
                s20 := fun h0 => φ.s20 (by simpa using h0) }, rfl⟩
            clear hK φ hG
            revert hk
            go_simp
            first | done | exact fun h => h
          case q19 =>
            rintro L vs w' K ⟨u163, u164, u165, u166, u167, u168, u169, u170, u171, u172, u173, u174, u175, u176, u177, u178, u179, u180, u181, u182, u12, wz, rfl, φ, rfl⟩ hL hpre hcl hK G hG
            simp [Region.binds, closedFrom] at hpre hcl
            have e15 := φ.s15 (by simp [hpre])
            subst e15
            have e18 := φ.s18 (by simp [hpre])
            subst e18
            have hk := hK [u163, u164, u165, u166, u167, u168, u169, u170, u171, u172, u173, u174, u175, u176, u177, (.bool true), u179, u180, (.bool true), (.bool true), u12] wz ⟨_, _, _, _, _, _, _, _, _, _, _, _, _, _, _, _, _, _, _, _, _, wz, rfl,
              { b := φ.b,
                s0 := fun h0 => φ.s0 (by simpa using h0),
                s1 := fun h0 => φ.s1 (by simpa using h0),
                s2 := fun h0 => φ.s2 (by simpa using h0),
                s3 := fun h0 => φ.s3 (by simpa using h0),
                s4 := fun h0 => φ.s4 (by simpa using h0),
                s5 := fun h0 => φ.s5 (by simpa using h0),
                s6 := fun h0 => φ.s6 (by simpa using h0),
                s7 := fun h0 => φ.s7 (by simpa using h0),
                s8 := fun h0 => φ.s8 (by simpa using h0),
                s9 := fun h0 => φ.s9 (by simpa using h0),
                s10 := fun h0 => φ.s10 (by simpa using h0),
                s11 := fun h0 => φ.s11 (by simpa using h0),
                s12 := fun h0 => φ.s12 (by simpa using h0),
                s13 := fun h0 => φ.s13 (by simpa using h0),
                s14 := fun h0 => φ.s14 (by simpa using h0),
                s15 := fun h0 => φ.s15 (by simpa using h0),
                s16 := fun h0 => φ.s16 (by simpa using h0),
                s17 := fun h0 => φ.s17 (by simpa using h0),
                s18 := fun h0 => φ.s18 (by simpa using h0),
                s19 := fun _ => rfl,
                s20 := fun h0 => φ.s20 (by simpa using h0) }, rfl⟩
            refine hG ?_
            clear hK φ hG
            revert hk
            go_simp
            first | done | exact fun h => h
          case q20 =>
            rintro L vs w' K ⟨u163, u164, u165, u166, u167, u168, u169, u170, u171, u172, u173, u174, u175, u176, u177, u178, u179, u180, u181, u182, u12, wz, rfl, φ, rfl⟩ hL hpre hcl hK G hG
            simp [Region.binds, closedFrom] at hpre hcl
            have e19 := φ.s19 (by simp [hpre])
            subst e19
            have hk := hK [u163, u164, u165, u166, u167, u168, u169, u170, u171, u172, u173, u174, u175, u176, u177, u178, u179, u180, u181, (.bool true), (.bool true)] wz ⟨_, _, _, _, _, _, _, _, _, _, _, _, _, _, _, _, _, _, _, _, _, wz, rfl,
              { b := φ.b,
                s0 := fun h0 => φ.s0 (by simpa using h0),
                s1 := fun h0 => φ.s1 (by simpa using h0),
                s2 := fun h0 => φ.s2 (by simpa using h0),
                s3 := fun h0 => φ.s3 (by simpa using h0),
                s4 := fun h0 => φ.s4 (by simpa using h0),
                s5 := fun h0 => φ.s5 (by simpa using h0),
                s6 := fun h0 => φ.s6 (by simpa using h0),
                s7 := fun h0 => φ.s7 (by simpa using h0),
                s8 := fun h0 => φ.s8 (by simpa using h0),
                s9 := fun h0 => φ.s9 (by simpa using h0),
                s10 := fun h0 => φ.s10 (by simpa using h0),
                s11 := fun h0 => φ.s11 (by simpa using h0),
                s12 := fun h0 => φ.s12 (by simpa using h0),
                s13 := fun h0 => φ.s13 (by simpa using h0),
                s14 := fun h0 => φ.s14 (by simpa using h0),
                s15 := fun h0 => φ.s15 (by simpa using h0),
                s16 := fun h0 => φ.s16 (by simpa using h0),
                s17 := fun h0 => φ.s17 (by simpa using h0),
                s18 := fun h0 => φ.s18 (by simpa using h0),
                s19 := fun h0 => φ.s19 (by simpa using h0),
                s20 := fun _ => rfl }, rfl⟩
            refine hG ?_
            clear hK φ hG
            revert hk
            go_simp
            first | done | exact fun h => h
          case hend =>
            rintro vs w' ⟨u163, u164, u165, u166, u167, u168, u169, u170, u171, u172, u173, u174, u175, u176, u177, u178, u179, u180, u181, u182, u12, wz, rfl, φ, rfl⟩ G hG
            obtain rfl := φ.s20 rfl
            have b9 := φ.b
            clear φ
            refine hG ?_
            clear hG
            have bF := bZ.trans (b9.mono bZ.size)
            go_simp
            go_wp2_with fail
            go_ret
            exact ⟨rfl, bF⟩
end Go.Proofs.Ytdndanjabknjpaa
