/- The walk of the reference's Put: a line is pushed out. -/
import Derived.Test.YtdndanjabknjpaaBK
import Derived.Test.YtdndanjabknjpaaAC
namespace Go.Proofs.Ytdndanjabknjpaa
open Go.RowKit Go.Lib

set_option linter.unusedVariables false
attribute [local go_sem] Act.puts

/-- The least line's place. -/
theorem least_at {x : Ca} (h : RightC x) {s : Nat} (hs : s < x.lines.length) {o : Nat} (ho : o < x.lines[s]!.length) (hle : ∀ j, j < x.lines[s]!.length → x.lines[s]![o]!.used ≤ x.lines[s]![j]!.used) :
    x.lines[s]![o]! = minD x.lines[s]! ∧ x.lines[s]!.eraseIdx o = x.lines[s]!.filter (fun y => !decide (y = minD x.lines[s]!)) := by
  generalize hl : x.lines[s]! = l at *
  have hu : (l.map Ln.used).Nodup := by rw [← hl]; exact h.nodupU hs
  have ho2 : l[o]! ∈ l := by rw [getElem!_pos l o ho]; exact List.getElem_mem _
  have hm := minD_mem (l := l) (by omega)
  obtain ⟨j, hj, hje⟩ := List.getElem_of_mem hm
  have h1 := minD_le ho2
  have h2 := hle j hj
  rw [getElem!_pos l j hj, hje] at h2
  have hoj : o = j := by
    rcases Nat.lt_trichotomy o j with hlt | e | hgt
    · have := nodup_pair hu hlt hj
      rw [getElem!_pos l j hj, hje] at this
      exact absurd (by omega) this
    · exact e
    · have := nodup_pair hu hgt ho
      rw [getElem!_pos l j hj, hje] at this
      exact absurd (by omega) this
  have he : l[o]! = minD l := by rw [hoj, getElem!_pos l j hj]; exact hje
  refine ⟨he, ?_⟩
  rw [List.eraseIdx_eq_take_drop_succ]
  have hsplit : l = l.take o ++ l[o]! :: l.drop (o + 1) := by
    rw [getElem!_pos l o ho, List.getElem_cons_drop, List.take_append_drop]
  have hnd : l.Nodup := List.Pairwise.imp (fun hne e => hne (by rw [e])) (List.pairwise_map.1 hu)
  rw [← he]
  generalize l[o]! = a at *
  have hP : ∀ y ∈ l.take o ++ l.drop (o + 1), y ≠ a := by
    intro y hy e
    subst e
    rw [hsplit, List.nodup_append] at hnd
    obtain ⟨_, n2, n3⟩ := hnd
    rcases List.mem_append.1 hy with hy | hy
    · exact n3 y hy y List.mem_cons_self rfl
    · exact (List.nodup_cons.1 n2).1 hy
  conv => rhs; rw [hsplit]
  rw [List.filter_append, List.filter_cons, if_neg (by simp), ← List.filter_append]
  symm
  rw [List.filter_eq_self]
  intro y hy
  simp [hP y hy]

set_option maxHeartbeats 16000000 in
set_option maxRecDepth 100000 in
theorem rPut_push (A : Option Addr) (c n : Nat) (x : Ca) (hs : List Hd) (t st v : Int) (w : World) (hc : CIn w A x.lines hs) (hn : x.lines.length = n) (hn1 : n ≤ 1000000) (hb : ∀ s, s < n → x.lines[s]!.length ≤ 1000000) (hmay : mayC x t = true) (hst1 : 1 ≤ st ∧ st ≤ 4) (hfo : ∀ s : Nat, t.tmod x.sets = (s : Int) → idxA x.lines[s]! t < 0) (hfu : ∀ s : Nat, t.tmod x.sets = (s : Int) → (x.lines[s]!.length : Int) = x.ways) :
    Calls Try.prog 20 #[.agg #[.int .i64 x.sets, .int .i64 x.ways, .int .i64 x.clock, .slice A n c], .int .i64 t, .int .i64 st, .int .u32 v] w (GivesY w A x.lines hs (putC x t st v)) := by
  have b0 : Below w.heap.size w (((w.alloc (.cells #[.int .i64 x.sets, .int .i64 x.ways, .int .i64 x.clock, .slice A n c] 26)).alloc (.cells #[.int .i64 0, .int .i64 0, .int .i64 0, .slice none 0 0] 26)).alloc (.cells #[.int .i64 0, .int .i64 0, .int .u32 0, .int .i64 0] 32)) := (((Below.refl _ _).alloc (Nat.le_refl _) _).alloc (by simp) _).alloc (by simp <;> omega) _
  have X := ((Bx.new w [.int .i64 x.sets, .int .i64 x.ways, .int .i64 x.clock, .slice A n c] 26).alloc (.cells #[.int .i64 0, .int .i64 0, .int .i64 0, .slice none 0 0] 26)).alloc (.cells #[.int .i64 0, .int .i64 0, .int .u32 0, .int .i64 0] 32)
  have Y := (Bx.new (w.alloc (.cells #[.int .i64 x.sets, .int .i64 x.ways, .int .i64 x.clock, .slice A n c] 26)) [.int .i64 0, .int .i64 0, .int .i64 0, .slice none 0 0] 26).alloc (.cells #[.int .i64 0, .int .i64 0, .int .u32 0, .int .i64 0] 32)
  have Z := Bx.new ((w.alloc (.cells #[.int .i64 x.sets, .int .i64 x.ways, .int .i64 x.clock, .slice A n c] 26)).alloc (.cells #[.int .i64 0, .int .i64 0, .int .i64 0, .slice none 0 0] 26)) [.int .i64 0, .int .i64 0, .int .u32 0, .int .i64 0] 32
  rw [show (w.alloc (.cells #[.int .i64 x.sets, .int .i64 x.ways, .int .i64 x.clock, .slice A n c] 26)).heap.size = w.heap.size + 1 by simp] at Y
  rw [show ((w.alloc (.cells #[.int .i64 x.sets, .int .i64 x.ways, .int .i64 x.clock, .slice A n c] 26)).alloc (.cells #[.int .i64 0, .int .i64 0, .int .i64 0, .slice none 0 0] 26)).heap.size = w.heap.size + 1 + 1 by simp] at Z
  have HC := Lib.hid (hc.below b0)
  have HFAR : CFar (w.heap.size + 1) A x.lines hs := hc.far (Nat.le_succ _)
  have HFAR2 : CFar (w.heap.size + 1 + 1) A x.lines hs := hc.far (by omega)
  have HC0 := Lib.hid hc
  have HN := Lib.hid hn
  have HB := Lib.hid hb
  have cR := fun w1 (h : CIn w1 A x.lines hs) => rRight_any A c n x hs w1 h hn
  clear hb hc
  obtain ⟨hr, ht, hk0⟩ := may_facts hmay
  have z1' : decide (t < 0) = false := decide_eq_false (by omega)
  have z2' : decide (1099511627776 ≤ x.clock) = false := decide_eq_false (by omega)
  have z3' : decide (st < 1) = false := decide_eq_false (by omega)
  have z4' : decide (4 < st) = false := decide_eq_false (by omega)
  have hclk0 : 0 ≤ x.clock := by have := right_facts hr; omega
  have HRI := Lib.hid hr
  obtain ⟨s, hst, hsn, h0⟩ := set_of hr ht
  have hn8 : x.lines.length ≤ 8 := by have := right_facts hr; omega
  have cP := fun w1 (h : CIn w1 A x.lines hs) => at_any A c n s x hs t w1 h hn (by rw [← hn]; exact hsn) hst h0 (by omega)
  have HSN := Lib.hid hsn
  have hsz : (s : Int) < (n : Int) := by omega
  have h0n : ¬ x.sets = 0 := h0
  have h0b : (x.sets == 0) = false := by rw [beq_eq_false_iff_ne]; exact h0
  have HSW := Lib.hid (show IntKind.i64.wrap (s : Int) = (s : Int) from IntWalk.i64_in _ (by omega))
  rw [hr] at cR
  have HST := Lib.hid hst
  have HST2 := Lib.hid (show t % x.sets = (s : Int) by rw [← Int.tmod_eq_emod_of_nonneg ht]; exact hst)
  have hL0 : putC x t st v = (if idxA x.lines[s]! t < 0 then (⟨x.sets, x.ways, x.clock + 1, x.lines.set s ((pushC x x.lines[s]!).1 ++ [⟨t, st, v, x.clock + 1⟩])⟩, (pushC x x.lines[s]!).2, 0) else (⟨x.sets, x.ways, x.clock + 1, x.lines.set s (x.lines[s]!.set (idxA x.lines[s]! t).toNat ⟨t, st, v, x.clock + 1⟩)⟩, zeroL, 0)) := by
    unfold putC setOf
    rw [if_pos ⟨hmay, hst1⟩, hst, Int.toNat_natCast]
  obtain ⟨ck, hck⟩ : ∃ ck : Int, x.clock + 1 = ck := ⟨_, rfl⟩
  have HWCK := Lib.hid (show wrap64 (x.clock + 1) = ck by rw [← hck]; unfold wrap64; omega)
  rw [hck] at hL0
  have hfo2 := hfo s hst
  have hfu2 := hfu s hst
  have hw1 : 1 ≤ x.ways := by have := right_facts hr; omega
  clear hfo hfu
  clear hst h0 hk0 hclk0 hck ht
  rcases idxA_cases x.lines[s]! t with ⟨hi, hno⟩ | ⟨kk, hk, hi, hka, hno⟩
  · rw [if_pos hfo2, pushC, if_pos hfu2] at hL0
    rw [hi] at cP
    simp only [] at hL0
    rw [hL0]
    have HYY0 := Lib.hid (rfl : True = True)
    obtain ⟨y, hy⟩ : ∃ y : Ca, y = ⟨x.sets, x.ways, ck, x.lines.set s (x.lines[s]!.filter (fun y => !decide (y = minD x.lines[s]!)) ++ [⟨t, st, v, ck⟩])⟩ := ⟨_, rfl⟩
    rw [← hy]
    obtain ⟨z0, hz0e⟩ : ∃ z0 : Ln, minD x.lines[s]! = z0 := ⟨_, rfl⟩
    rw [hz0e]
    have HYY := Lib.hid hy
    have HZ0 := Lib.hid hz0e
    have HFU := Lib.hid hfu2
    have hm1q : 1 ≤ x.lines[s]!.length := by omega
    have HM1Q := Lib.hid hm1q
    clear hL0 hi hno hy hsn hn hfo2 hfu2 hr hz0e hm1q hw1 HYY0
    have x0 := X.cell 0 _ rfl
    have x1 := X.cell 1 _ rfl
    have x2 := X.cell 2 _ rfl
    have x3 := X.cell 3 _ rfl
    have y0 := Y.cell 0 _ rfl
    have f0 := Y.froz 0
    have y1 := Y.cell 1 _ rfl
    have f1 := Y.froz 1
    have y2 := Y.cell 2 _ rfl
    have f2 := Y.froz 2
    have y3 := Y.cell 3 _ rfl
    have f3 := Y.froz 3
    have k0 := Z.cell 0 _ rfl
    have h0 := Z.froz 0
    have k1 := Z.cell 1 _ rfl
    have h1 := Z.froz 1
    have k2 := Z.cell 2 _ rfl
    have h2 := Z.froz 2
    have k3 := Z.cell 3 _ rfl
    have h3 := Z.froz 3
    go_enter Try.func20, Try.ntmps20
    go_wp2_with fail
    generalize (((w.alloc (.cells #[.int .i64 x.sets, .int .i64 x.ways, .int .i64 x.clock, .slice A n c] 26)).alloc (.cells #[.int .i64 0, .int .i64 0, .int .i64 0, .slice none 0 0] 26)).alloc (.cells #[.int .i64 0, .int .i64 0, .int .u32 0, .int .i64 0] 32)) = W0 at *
    refine (cR _ HC.out).mono ?_
    rintro e w1 ⟨rfl, hb1⟩
    replace X := X.below hb1
    replace Y := Y.below hb1
    replace Z := Z.below hb1
    have b1 := b0.trans (hb1.mono b0.size)
    have HC1 := HC.out.below hb1
    clear x0 x1 x2 x3 y0 y1 y2 y3 f0 f1 f2 f3 k0 k1 k2 k3 h0 h1 h2 h3 cR hb1
    generalize hCX : w.heap.size = CX at X Y Z HFAR HFAR2 ⊢
    generalize hYX : CX + 1 = YX at X Y Z HFAR HFAR2 ⊢
    generalize hZX : YX + 1 = ZX at X Y Z HFAR HFAR2 ⊢
    have x0 := X.cell 0 _ rfl
    have x1 := X.cell 1 _ rfl
    have x2 := X.cell 2 _ rfl
    have x3 := X.cell 3 _ rfl
    have y0 := Y.cell 0 _ rfl
    have f0 := Y.froz 0
    have y1 := Y.cell 1 _ rfl
    have f1 := Y.froz 1
    have y2 := Y.cell 2 _ rfl
    have f2 := Y.froz 2
    have y3 := Y.cell 3 _ rfl
    have f3 := Y.froz 3
    have k0 := Z.cell 0 _ rfl
    have h0 := Z.froz 0
    have k1 := Z.cell 1 _ rfl
    have h1 := Z.froz 1
    have k2 := Z.cell 2 _ rfl
    have h2 := Z.froz 2
    have k3 := Z.cell 3 _ rfl
    have h3 := Z.froz 3
    go_wp2_with fail
    have O := Bx.new w1 [.int .i64 0, .int .i64 0, .int .u32 0, .int .i64 0] 32
    replace X := X.alloc (.cells #[.int .i64 0, .int .i64 0, .int .u32 0, .int .i64 0] 32)
    replace Y := Y.alloc (.cells #[.int .i64 0, .int .i64 0, .int .u32 0, .int .i64 0] 32)
    have hOZ := Z.lt
    replace Z := Z.alloc (.cells #[.int .i64 0, .int .i64 0, .int .u32 0, .int .i64 0] 32)
    replace b1 := b1.alloc b1.size (.cells #[.int .i64 0, .int .i64 0, .int .u32 0, .int .i64 0] 32)
    replace HC1 := HC1.below ((Below.refl _ _).alloc (Nat.le_refl _) (.cells #[.int .i64 0, .int .i64 0, .int .u32 0, .int .i64 0] 32))
    clear x0 x1 x2 x3 y0 y1 y2 y3 f0 f1 f2 f3 k0 k1 k2 k3 h0 h1 h2 h3 z1' z2' z3' z4'
    generalize w1.alloc (.cells #[.int .i64 0, .int .i64 0, .int .u32 0, .int .i64 0] 32) = w2 at *
    generalize w1.heap.size = OX at *
    have x0 := X.cell 0 _ rfl
    have x1 := X.cell 1 _ rfl
    have x2 := X.cell 2 _ rfl
    have x3 := X.cell 3 _ rfl
    have y0 := Y.cell 0 _ rfl
    have f0 := Y.froz 0
    have y1 := Y.cell 1 _ rfl
    have f1 := Y.froz 1
    have y2 := Y.cell 2 _ rfl
    have f2 := Y.froz 2
    have y3 := Y.cell 3 _ rfl
    have f3 := Y.froz 3
    have k0 := Z.cell 0 _ rfl
    have h0 := Z.froz 0
    have k1 := Z.cell 1 _ rfl
    have h1 := Z.froz 1
    have k2 := Z.cell 2 _ rfl
    have h2 := Z.froz 2
    have k3 := Z.cell 3 _ rfl
    have h3 := Z.froz 3
    obtain ⟨bb, off, B2, m, c2, e1, hcell, hm, hmc, _, hsl⟩ := HC1.at_ s HSN.out
    subst e1
    obtain ⟨l, hl⟩ : ∃ l, l = x.lines[s]! := ⟨_, rfl⟩
    rw [← hl] at hm hsl HYY HFU HZ0 HM1Q
    have HLS := Lib.hid hl
    have hm1p : 1 ≤ m := by rw [← hm]; exact HM1Q.out
    have hm1 : m ≤ 1000000 := by rw [← hm, hl]; exact HB.out s (by rw [← HN.out]; exact HSN.out)
    replace hsl := hsl.below (Below.refl _ _).drew
    replace hcell : w2.drew.cell? ⟨bb, off + s, none⟩ = _ := hcell
    replace x0 : w2.drew.cell? ⟨CX, 0, none⟩ = _ := x0
    replace x3 : w2.drew.cell? ⟨CX, 3, none⟩ = _ := x3
    obtain ⟨i0, hi0, hz0, hz1, hz2⟩ := info_parts info32
    have hst := HST.out
    have hst2 := HST2.out
    have hsw := HSW.out
    refine wp_region_rg (by kernel_rfl) (by kernel_rfl) [38, 39, 40, 41, 42, 43, 44, 45, 46, 47, 12] (RpCPhi w2.drew CX bb off n c s m c2 B2 t x l) ?h0 ⟨?q0, ?q1, ?q2, ?q3, ?q4, ?q5, ?q6, ?q7, ?q8, ?q9, ?q10, trivial⟩ ?hend
    case h0 => exact ⟨_, _, _, _, _, _, _, _, _, _, _, _, rfl, ⟨Below.refl _ _, (fun h => by cases h), (fun h => by cases h), (fun h => by cases h), (fun h => by cases h), (fun h => by cases h), (fun h => by cases h), (fun h => by cases h), (fun h => by cases h), (fun h => by cases h), (fun h => by cases h), (fun h => by cases h)⟩, rfl⟩
    case q0 =>
      rintro L vs w' K ⟨u38, u39, u40, u41, u42, u43, u44, u45, u46, u47, u12, wz, rfl, φ, rfl⟩ hL hpre hcl hK G hG
      simp [Region.binds, closedFrom] at hpre hcl
      have L9 : L 9 = false := by
        cases h : L 9 with
        | false => rfl
        | true => simp [h, hL] at hcl
      have hk := hK [(.slice (some ⟨wz.heap.size, 0, none⟩) 0 0), u39, u40, u41, u42, u43, u44, u45, u46, u47, u12] (wz.alloc (.cells #[] 32)) ⟨_, _, _, _, _, _, _, _, _, _, _, (wz.alloc (.cells #[] 32)), rfl,
        { b := φ.b.alloc φ.b.size _,
          s0 := fun _ _ => World.ownsRow_made wz #[] 0 φ.b.size (Nat.zero_le _) (by simp),
          s1 := fun h0 => φ.s1 (by simpa using h0),
          s2 := fun h0 => φ.s2 (by simpa using h0),
          s3 := fun h0 => φ.s3 (by simpa using h0),
          s4 := fun h0 => φ.s4 (by simpa using h0),
          s5 := fun h0 => φ.s5 (by simpa using h0),
          s6 := fun h0 => φ.s6 (by simpa using h0),
          s7 := fun h0 => φ.s7 (by simpa using h0),
          s8 := fun h0 => φ.s8 (by simpa using h0),
          s9 := fun h => by simp [L9] at h,
          s10 := fun h0 => φ.s10 (by simpa using h0) }, rfl⟩
      refine hG ?_
      clear hK φ hG
      revert hk
      go_simp
      first | done | exact fun h => h
    case q1 =>
      rintro L vs w' K ⟨u38, u39, u40, u41, u42, u43, u44, u45, u46, u47, u12, wz, rfl, φ, rfl⟩ hL hpre hcl hK G hG
      simp [Region.binds, closedFrom] at hpre hcl
      have hk := hK [u38, (.pointer (some ⟨CX, 3, none⟩)), u40, u41, u42, u43, u44, u45, u46, u47, u12] wz ⟨_, _, _, _, _, _, _, _, _, _, _, wz, rfl,
        { b := φ.b,
          s0 := fun h0 h1 => φ.s0 (by simpa using h0) (by simpa using h1),
          s1 := fun _ => rfl,
          s2 := fun h0 => φ.s2 (by simpa using h0),
          s3 := fun h0 => φ.s3 (by simpa using h0),
          s4 := fun h0 => φ.s4 (by simpa using h0),
          s5 := fun h0 => φ.s5 (by simpa using h0),
          s6 := fun h0 => φ.s6 (by simpa using h0),
          s7 := fun h0 => φ.s7 (by simpa using h0),
          s8 := fun h0 => φ.s8 (by simpa using h0),
          s9 := fun h0 => φ.s9 (by simpa using h0),
          s10 := fun h0 => φ.s10 (by simpa using h0) }, rfl⟩
      refine hG ?_
      clear hK φ hG
      revert hk
      go_simp
      first | done | exact fun h => h
    case q2 =>
      rintro L vs w' K ⟨u38, u39, u40, u41, u42, u43, u44, u45, u46, u47, u12, wz, rfl, φ, rfl⟩ hL hpre hcl hK G hG
      simp [Region.binds, closedFrom] at hpre hcl
      have e1 := φ.s1 (by simp [hpre])
      subst e1
      have ce := (φ.b.cell (p := ⟨CX, 3, none⟩) (World.block_lt_of_cell? _ _ x3)).trans x3
      have hk := hK [u38, (.pointer (some ⟨CX, 3, none⟩)), (.slice (some ⟨bb, off, none⟩) n c), u41, u42, u43, u44, u45, u46, u47, u12] wz ⟨_, _, _, _, _, _, _, _, _, _, _, wz, rfl,
        { b := φ.b,
          s0 := fun h0 h1 => φ.s0 (by simpa using h0) (by simpa using h1),
          s1 := fun h0 => φ.s1 (by simpa using h0),
          s2 := fun _ => rfl,
          s3 := fun h0 => φ.s3 (by simpa using h0),
          s4 := fun h0 => φ.s4 (by simpa using h0),
          s5 := fun h0 => φ.s5 (by simpa using h0),
          s6 := fun h0 => φ.s6 (by simpa using h0),
          s7 := fun h0 => φ.s7 (by simpa using h0),
          s8 := fun h0 => φ.s8 (by simpa using h0),
          s9 := fun h0 => φ.s9 (by simpa using h0),
          s10 := fun h0 => φ.s10 (by simpa using h0) }, rfl⟩
      refine hG ?_
      clear hK φ hG
      revert hk
      go_simp
      first | done | exact fun h => h
    case q3 =>
      rintro L vs w' K ⟨u38, u39, u40, u41, u42, u43, u44, u45, u46, u47, u12, wz, rfl, φ, rfl⟩ hL hpre hcl hK G hG
      simp [Region.binds, closedFrom] at hpre hcl
      have hk := hK [u38, u39, u40, (.int .i64 t), u42, u43, u44, u45, u46, u47, u12] wz ⟨_, _, _, _, _, _, _, _, _, _, _, wz, rfl,
        { b := φ.b,
          s0 := fun h0 h1 => φ.s0 (by simpa using h0) (by simpa using h1),
          s1 := fun h0 => φ.s1 (by simpa using h0),
          s2 := fun h0 => φ.s2 (by simpa using h0),
          s3 := fun _ => rfl,
          s4 := fun h0 => φ.s4 (by simpa using h0),
          s5 := fun h0 => φ.s5 (by simpa using h0),
          s6 := fun h0 => φ.s6 (by simpa using h0),
          s7 := fun h0 => φ.s7 (by simpa using h0),
          s8 := fun h0 => φ.s8 (by simpa using h0),
          s9 := fun h0 => φ.s9 (by simpa using h0),
          s10 := fun h0 => φ.s10 (by simpa using h0) }, rfl⟩
      refine hG ?_
      clear hK φ hG
      revert hk
      go_simp
      first | done | exact fun h => h
    case q4 =>
      rintro L vs w' K ⟨u38, u39, u40, u41, u42, u43, u44, u45, u46, u47, u12, wz, rfl, φ, rfl⟩ hL hpre hcl hK G hG
      simp [Region.binds, closedFrom] at hpre hcl
      have hk := hK [u38, u39, u40, u41, (.pointer (some ⟨CX, 0, none⟩)), u43, u44, u45, u46, u47, u12] wz ⟨_, _, _, _, _, _, _, _, _, _, _, wz, rfl,
        { b := φ.b,
          s0 := fun h0 h1 => φ.s0 (by simpa using h0) (by simpa using h1),
          s1 := fun h0 => φ.s1 (by simpa using h0),
          s2 := fun h0 => φ.s2 (by simpa using h0),
          s3 := fun h0 => φ.s3 (by simpa using h0),
          s4 := fun _ => rfl,
          s5 := fun h0 => φ.s5 (by simpa using h0),
          s6 := fun h0 => φ.s6 (by simpa using h0),
          s7 := fun h0 => φ.s7 (by simpa using h0),
          s8 := fun h0 => φ.s8 (by simpa using h0),
          s9 := fun h0 => φ.s9 (by simpa using h0),
          s10 := fun h0 => φ.s10 (by simpa using h0) }, rfl⟩
      refine hG ?_
      clear hK φ hG
      revert hk
      go_simp
      first | done | exact fun h => h
    case q5 =>
      rintro L vs w' K ⟨u38, u39, u40, u41, u42, u43, u44, u45, u46, u47, u12, wz, rfl, φ, rfl⟩ hL hpre hcl hK G hG
      simp [Region.binds, closedFrom] at hpre hcl
      have e4 := φ.s4 (by simp [hpre])
      subst e4
      have ce := (φ.b.cell (p := ⟨CX, 0, none⟩) (World.block_lt_of_cell? _ _ x0)).trans x0
      have hk := hK [u38, u39, u40, u41, (.pointer (some ⟨CX, 0, none⟩)), (.int .i64 x.sets), u44, u45, u46, u47, u12] wz ⟨_, _, _, _, _, _, _, _, _, _, _, wz, rfl,
        { b := φ.b,
          s0 := fun h0 h1 => φ.s0 (by simpa using h0) (by simpa using h1),
          s1 := fun h0 => φ.s1 (by simpa using h0),
          s2 := fun h0 => φ.s2 (by simpa using h0),
          s3 := fun h0 => φ.s3 (by simpa using h0),
          s4 := fun h0 => φ.s4 (by simpa using h0),
          s5 := fun _ => rfl,
          s6 := fun h0 => φ.s6 (by simpa using h0),
          s7 := fun h0 => φ.s7 (by simpa using h0),
          s8 := fun h0 => φ.s8 (by simpa using h0),
          s9 := fun h0 => φ.s9 (by simpa using h0),
          s10 := fun h0 => φ.s10 (by simpa using h0) }, rfl⟩
      refine hG ?_
      clear hK φ hG
      revert hk
      go_simp
      first | done | exact fun h => h
    case q6 =>
      rintro L vs w' K ⟨u38, u39, u40, u41, u42, u43, u44, u45, u46, u47, u12, wz, rfl, φ, rfl⟩ hL hpre hcl hK G hG
      simp [Region.binds, closedFrom] at hpre hcl
      have e3 := φ.s3 (by simp [hpre])
      subst e3
      have e5 := φ.s5 (by simp [hpre])
      subst e5
      have hk := hK [u38, u39, u40, (.int .i64 t), u42, (.int .i64 x.sets), (.int .i64 (s : Int)), u45, u46, u47, u12] wz ⟨_, _, _, _, _, _, _, _, _, _, _, wz, rfl,
        { b := φ.b,
          s0 := fun h0 h1 => φ.s0 (by simpa using h0) (by simpa using h1),
          s1 := fun h0 => φ.s1 (by simpa using h0),
          s2 := fun h0 => φ.s2 (by simpa using h0),
          s3 := fun h0 => φ.s3 (by simpa using h0),
          s4 := fun h0 => φ.s4 (by simpa using h0),
          s5 := fun h0 => φ.s5 (by simpa using h0),
          s6 := fun _ => rfl,
          s7 := fun h0 => φ.s7 (by simpa using h0),
          s8 := fun h0 => φ.s8 (by simpa using h0),
          s9 := fun h0 => φ.s9 (by simpa using h0),
          s10 := fun h0 => φ.s10 (by simpa using h0) }, rfl⟩
      refine hG ?_
      clear hK φ hG
      revert hk
      go_simp
      first | done | exact fun h => h
    case q7 =>
      rintro L vs w' K ⟨u38, u39, u40, u41, u42, u43, u44, u45, u46, u47, u12, wz, rfl, φ, rfl⟩ hL hpre hcl hK G hG
      simp [Region.binds, closedFrom] at hpre hcl
      have e2 := φ.s2 (by simp [hpre])
      subst e2
      have e6 := φ.s6 (by simp [hpre])
      subst e6
      have hk := hK [u38, u39, (.slice (some ⟨bb, off, none⟩) n c), u41, u42, u43, (.int .i64 (s : Int)), (.pointer (some ⟨bb, off + s, none⟩)), u46, u47, u12] wz ⟨_, _, _, _, _, _, _, _, _, _, _, wz, rfl,
        { b := φ.b,
          s0 := fun h0 h1 => φ.s0 (by simpa using h0) (by simpa using h1),
          s1 := fun h0 => φ.s1 (by simpa using h0),
          s2 := fun h0 => φ.s2 (by simpa using h0),
          s3 := fun h0 => φ.s3 (by simpa using h0),
          s4 := fun h0 => φ.s4 (by simpa using h0),
          s5 := fun h0 => φ.s5 (by simpa using h0),
          s6 := fun h0 => φ.s6 (by simpa using h0),
          s7 := fun _ => rfl,
          s8 := fun h0 => φ.s8 (by simpa using h0),
          s9 := fun h0 => φ.s9 (by simpa using h0),
          s10 := fun h0 => φ.s10 (by simpa using h0) }, rfl⟩
      refine hG ?_
      clear hK φ hG
      revert hk
      go_simp
      first | done | exact fun h => h
    case q8 =>
      rintro L vs w' K ⟨u38, u39, u40, u41, u42, u43, u44, u45, u46, u47, u12, wz, rfl, φ, rfl⟩ hL hpre hcl hK G hG
      simp [Region.binds, closedFrom] at hpre hcl
      have e7 := φ.s7 (by simp [hpre])
      subst e7
      have ce := (φ.b.cell (p := ⟨bb, off + s, none⟩) (World.block_lt_of_cell? _ _ hcell)).trans hcell
      have hk := hK [u38, u39, u40, u41, u42, u43, u44, (.pointer (some ⟨bb, off + s, none⟩)), (.slice B2 m c2), u47, u12] wz ⟨_, _, _, _, _, _, _, _, _, _, _, wz, rfl,
        { b := φ.b,
          s0 := fun h0 h1 => φ.s0 (by simpa using h0) (by simpa using h1),
          s1 := fun h0 => φ.s1 (by simpa using h0),
          s2 := fun h0 => φ.s2 (by simpa using h0),
          s3 := fun h0 => φ.s3 (by simpa using h0),
          s4 := fun h0 => φ.s4 (by simpa using h0),
          s5 := fun h0 => φ.s5 (by simpa using h0),
          s6 := fun h0 => φ.s6 (by simpa using h0),
          s7 := fun h0 => φ.s7 (by simpa using h0),
          s8 := fun _ => rfl,
          s9 := fun h0 => φ.s9 (by simpa using h0),
          s10 := fun h0 => φ.s10 (by simpa using h0) }, rfl⟩
      refine hG ?_
      clear hK φ hG
      revert hk
      go_simp
      first | done | exact fun h => h
    case q9 =>
      rintro L vs w' K ⟨u38, u39, u40, u41, u42, u43, u44, u45, u46, u47, u12, wz, rfl, φ, rfl⟩ hL hpre hcl hK G hG
      simp [Region.binds, closedFrom] at hpre hcl
      have e8 := φ.s8 (by simp [hpre])
      subst e8
      have o1 := φ.s0 (by simp [hpre]) hL
      have L10 : L 10 = false := by
        cases h : L 10 with
        | false => rfl
        | true => simp [h, hL] at hcl
      refine hG (step_append_sl wz rfl (.tmp 38) (.tmp 46) 40 rfl w2.drew.heap.size 32 i0 _ 4 32 Try.underlying40 hi0 hz0 hz1 hz2 rfl (by decide) u38 0 _ (by simp [Act.eval, Act.puts, Act.put]) o1 Ln.enc Ln.enc_len Ln.enc_one B2 m c2 l (by simp [Act.eval, Act.puts, Act.put]) hm (hsl.below φ.b) (by unfold maxLen; omega) (by omega) φ.b.size ?_)
      intro v' w9 ownN hgrow hat
      have b9 := below_append φ.b hgrow φ.b.size o1 (Nat.le_refl _)
      rw [Nat.zero_add, List.nil_append] at ownN
      have hk := hK [u38, u39, u40, u41, u42, u43, u44, u45, (.slice B2 m c2), (v'), u12] w9 ⟨_, _, _, _, _, _, _, _, _, _, _, w9, rfl,
        { b := b9,
          s0 := fun _ h => by simp at h,
          s1 := fun h0 => φ.s1 (by simpa using h0),
          s2 := fun h0 => φ.s2 (by simpa using h0),
          s3 := fun h0 => φ.s3 (by simpa using h0),
          s4 := fun h0 => φ.s4 (by simpa using h0),
          s5 := fun h0 => φ.s5 (by simpa using h0),
          s6 := fun h0 => φ.s6 (by simpa using h0),
          s7 := fun h0 => φ.s7 (by simpa using h0),
          s8 := fun h0 => φ.s8 (by simpa using h0),
          s9 := fun _ => ownN,
          s10 := fun h => by simp [L10] at h }, rfl⟩
      clear hK φ hG
      revert hk
      go_simp
      first | done | exact fun h => h
    case q10 =>
      rintro L vs w' K ⟨u38, u39, u40, u41, u42, u43, u44, u45, u46, u47, u12, wz, rfl, φ, rfl⟩ hL hpre hcl hK G hG
      simp [Region.binds, closedFrom] at hpre hcl
      have hk := hK [u38, u39, u40, u41, u42, u43, u44, u45, u46, u47, (u47)] wz ⟨_, _, _, _, _, _, _, _, _, _, _, wz, rfl,
        { b := φ.b,
          s0 := fun h0 h1 => φ.s0 (by simpa using h0) (by simpa using h1),
          s1 := fun h0 => φ.s1 (by simpa using h0),
          s2 := fun h0 => φ.s2 (by simpa using h0),
          s3 := fun h0 => φ.s3 (by simpa using h0),
          s4 := fun h0 => φ.s4 (by simpa using h0),
          s5 := fun h0 => φ.s5 (by simpa using h0),
          s6 := fun h0 => φ.s6 (by simpa using h0),
          s7 := fun h0 => φ.s7 (by simpa using h0),
          s8 := fun h0 => φ.s8 (by simpa using h0),
          s9 := fun h0 => φ.s9 (by simpa using h0),
          s10 := fun _ => rfl }, rfl⟩
      refine hG ?_
      clear hK φ hG
      revert hk
      go_simp
      first | done | exact fun h => h
    case hend =>
      rintro vs w' ⟨u38, u39, u40, u41, u42, u43, u44, u45, u46, u47, u12, wz, rfl, φ, rfl⟩ G hG
      have o9 := φ.s9 rfl
      have b9 := φ.b
      obtain rfl := φ.s10 rfl
      clear φ
      refine hG ?_
      clear hG hst hst2 hsw hcell hsl
      clear x0 x1 x2 x3 y0 y1 y2 y3 f0 f1 f2 f3 k0 k1 k2 k3 h0 h1 h2 h3
      have b9w : Below w2.heap.size w2 wz := (Below.refl w2.heap.size w2).drew.trans b9
      have hXl := X.lt
      have hYl := Y.lt
      have hZl := Z.lt
      have hOl := O.lt
      replace X := X.below b9w
      replace Y := Y.below b9w
      replace Z := Z.below b9w
      replace O := O.below b9w
      have b3 := b1.trans (b9w.mono b1.size)
      have HC3 := HC1.below b9w
      have hw23 := b9w.size
      clear b9 b9w HC1
      have x0 := X.cell 0 _ rfl
      have x1 := X.cell 1 _ rfl
      have x2 := X.cell 2 _ rfl
      have x3 := X.cell 3 _ rfl
      go_simp
      go_wp2_with fail
      refine (cP _ HC3).mono ?_
      rintro e w4 ⟨rfl, hb4⟩
      clear cP x0 x1 x2 x3
      replace X := X.below hb4
      replace Y := Y.below hb4
      replace Z := Z.below hb4
      replace O := O.below hb4
      have own4 := own_below o9 hb4
      have b4 := b3.trans (hb4.mono b3.size)
      have hw24 := Nat.le_trans hw23 hb4.size
      clear o9 b3 hb4 HC3 hw23
      obtain ⟨g4, c4, rfl⟩ := own_slice own4 (by omega)
      have hlen : ((m : Int) == x.ways) = true := by rw [beq_iff_eq, ← hm]; exact HFU.out
      have x1 := X.cell 1 _ rfl
      have hcap4 := (own_cap own4).1
      have hSL4 := Lib.hid (Sl.of_own Ln.enc_len own4 hm)
      have HM := Lib.hid hm
      go_wp2_with fail
      clear x1
      go_loopg [14, 15] m (fun gg s14 s15 wr => ∃ i o : Nat, 1 ≤ i ∧ i ≤ m ∧ o < i ∧ m - i ≤ gg ∧ s15 = .int .i64 (i : Int) ∧ s14 = .int .i64 (o : Int) ∧ Aside (∀ j, j < i → l[o]!.used ≤ l[j]!.used) ∧ Aside (Below w4.heap.size w4 wr))
      case atStart => exact ⟨1, 0, Nat.le_refl _, hm1p, Nat.zero_lt_one, by omega, rfl, rfl, (show Aside _ from fun j hj => by rw [show j = 0 by omega]; exact Int.le_refl _), (show Aside _ from Below.refl _ _)⟩
      case round =>
        obtain ⟨i, o, hi1, him, hoi, hgi, rfl, rfl, HLE, HB4⟩ := hrel
        by_cases hilt : i < m
        · have hiz : (i : Int) < (m : Int) := by omega
          have hoz : (o : Int) < (m : Int) := by omega
          obtain ⟨b5, o5, e5, hq5⟩ := (hSL4.out.below HB4.out).at_ i (by rw [HM.out]; exact hilt)
          obtain ⟨b6, o6, e6, hq6⟩ := (hSL4.out.below HB4.out).at_ o (by rw [HM.out]; omega)
          obtain ⟨rfl, rfl⟩ : g4 = b5 ∧ 0 = o5 := by simpa using e5
          obtain ⟨rfl, rfl⟩ : g4 = b6 ∧ 0 = o6 := by simpa using e6
          have u3 := hq5 3 _ rfl
          have v3 := hq6 3 _ rfl
          rw [Nat.zero_add] at u3 v3
          clear hq5 hq6 e5 e6
          by_cases hlt : l[i]!.used < l[o]!.used
          · have hd : decide (l[i]!.used < l[o]!.used) = true := decide_eq_true hlt
            have HLT := Lib.hid hlt
            clear hlt
            generalize hui : l[i]!.used = ui at u3 hd HLT
            generalize huo : l[o]!.used = uo at v3 hd HLT
            have HUI := Lib.hid hui
            have HUO := Lib.hid huo
            clear hui huo
            go_wp2_with fail
            go_quiet (fail)
            go_wp2_with fail
            go_roundg (m - (i + 1))
            case measure => omega
            case rel =>
              refine ⟨i + 1, i, by omega, by omega, by omega, by omega, by first | rfl | go_num, rfl, (show Aside _ from fun j hj => ?_), (show Aside _ from bdrewN HB4.out _)⟩
              rw [HUI.out]
              by_cases e : j = i
              · subst e; rw [HUI.out]; exact Int.le_refl _
              · have := HLE.out j (by omega); rw [HUO.out] at this; have := HLT.out; omega
          · have hd : decide (l[i]!.used < l[o]!.used) = false := decide_eq_false hlt
            have HLT := Lib.hid hlt
            clear hlt
            generalize hui : l[i]!.used = ui at u3 hd HLT
            generalize huo : l[o]!.used = uo at v3 hd HLT
            have HUI := Lib.hid hui
            have HUO := Lib.hid huo
            clear hui huo
            go_wp2_with fail
            go_quiet (fail)
            go_wp2_with fail
            go_roundg (m - (i + 1))
            case measure => omega
            case rel =>
              refine ⟨i + 1, o, by omega, by omega, by omega, by omega, by first | rfl | go_num, rfl, (show Aside _ from fun j hj => ?_), (show Aside _ from bdrewN HB4.out _)⟩
              by_cases e : j = i
              · subst e; rw [HUI.out, HUO.out]; have := HLT.out; omega
              · exact HLE.out j (by omega)
        · obtain rfl : i = m := by omega
          have hiz : ¬ (i : Int) < (i : Int) := by omega
          have hoz : (o : Int) < (i : Int) := by omega
          have hol : o < l.length := by rw [HM.out]; exact hoi
          have hle := least_at (rightC_iff.1 HRI.out) HSN.out (o := o) (by rw [← HLS.out]; exact hol) (fun j hj => by rw [← HLS.out] at hj ⊢; exact HLE.out j (by rw [← HM.out]; exact hj))
          rw [← HLS.out] at hle
          have hle1 := hle.1
          have HLE2 := Lib.hid hle.2
          have hz := hle1.trans HZ0.out
          obtain ⟨_, _, e6, hq6⟩ := (hSL4.out.below HB4.out).at_ o hol
          obtain ⟨rfl, rfl⟩ := by simpa using e6
          have q0 := hq6 0 _ rfl
          have q1 := hq6 1 _ rfl
          have q2 := hq6 2 _ rfl
          have q3 := hq6 3 _ rfl
          rw [Nat.add_zero] at q0
          rw [Nat.zero_add] at q0 q1 q2 q3
          rw [hz] at q0 q1 q2 q3
          rw [← HLE2.out] at HYY
          clear hq6 e6 hle hle1 hz HLE
          replace X := X.below HB4.out
          replace Y := Y.below HB4.out
          replace Z := Z.below HB4.out
          replace O := O.below HB4.out
          replace own4 := own_below own4 HB4.out
          replace b4 := b4.trans (HB4.out.mono b4.size)
          replace hw24 := Nat.le_trans hw24 HB4.out.size
          have hgb4 := (own_block own4).1
          have o0 := O.cell 0 _ rfl
          have o1 := O.cell 1 _ rfl
          have o2 := O.cell 2 _ rfl
          have o3 := O.cell 3 _ rfl
          have p0 := O.froz 0
          have p1 := O.froz 1
          have p2 := O.froz 2
          have p3 := O.froz 3
          have ngo : g4 ≠ OX := by
            have : w2.heap.size ≤ g4 := hgb4
            omega
          have hbig := hSL4.out.big
          have own5 := own_far (own_far (own_far (own_far own4 (X := OX) hOl 0 (.int .i64 z0.addr)) (X := OX) hOl 1 (.int .i64 z0.state)) (X := OX) hOl 2 (.int .u32 z0.val_)) (X := OX) hOl 3 (.int .i64 z0.used)
          have cW := without_any (some ⟨g4, 0, none⟩) i c4 o l _ (Sl.of_own Ln.enc_len own5 HM.out) HM.out hcap4 hoi hm1
          have hnX : OX ≠ CX := by omega
          have hnY : OX ≠ YX := by omega
          have hnZ : OX ≠ ZX := by omega
          replace X := X.far4 hnX (.int .i64 z0.addr) (.int .i64 z0.state) (.int .u32 z0.val_) (.int .i64 z0.used)
          replace Y := Y.far4 hnY (.int .i64 z0.addr) (.int .i64 z0.state) (.int .u32 z0.val_) (.int .i64 z0.used)
          replace Z := Z.far4 hnZ (.int .i64 z0.addr) (.int .i64 z0.state) (.int .u32 z0.val_) (.int .i64 z0.used)
          replace O := O.set4 (.int .i64 z0.addr) (.int .i64 z0.state) (.int .u32 z0.val_) (.int .i64 z0.used)
          have hOb : w.heap.size ≤ OX := by omega
          replace b4 := (((b4.setCell (p := ⟨OX, 0, none⟩) hOb (.int .i64 z0.addr)).setCell (p := ⟨OX, 1, none⟩) hOb (.int .i64 z0.state)).setCell (p := ⟨OX, 2, none⟩) hOb (.int .u32 z0.val_)).setCell (p := ⟨OX, 3, none⟩) hOb (.int .i64 z0.used)
          have hw25 : w2.heap.size ≤ ((((wr.setCell ⟨OX, 0, none⟩ (.int .i64 z0.addr)).setCell ⟨OX, 1, none⟩ (.int .i64 z0.state)).setCell ⟨OX, 2, none⟩ (.int .u32 z0.val_)).setCell ⟨OX, 3, none⟩ (.int .i64 z0.used)).heap.size := by simp; exact hw24
          clear own4 own5
          go_wp2_with fail
          clear o0 o1 o2 o3 p0 p1 p2 p3 q0 q1 q2 q3
          generalize ((((wr.setCell ⟨OX, 0, none⟩ (.int .i64 z0.addr)).setCell ⟨OX, 1, none⟩ (.int .i64 z0.state)).setCell ⟨OX, 2, none⟩ (.int .u32 z0.val_)).setCell ⟨OX, 3, none⟩ (.int .i64 z0.used)) = w7 at *
          refine cW.mono ?_
          rintro e w8 ⟨v8, rfl, own8, hb8⟩
          obtain ⟨A4, c5, rfl⟩ := own_shape own8
          replace own8 := own_weaken' own8 (show w2.drew.heap.size ≤ w7.heap.size from hw25)
          replace X := X.below hb8
          replace Y := Y.below hb8
          replace Z := Z.below hb8
          replace O := O.below hb8
          replace b4 := b4.trans (hb8.mono b4.size)
          replace hw24 := Nat.le_trans hw25 hb8.size
          obtain ⟨L0, hL0e⟩ : ∃ L0, L0 = l.eraseIdx o := ⟨_, rfl⟩
          have hL0m : L0.length = i - 1 := by rw [hL0e, List.length_eraseIdx, if_pos hol, HM.out]
          rw [← hL0e] at own8 HYY
          obtain ⟨m2, hm2e⟩ : ∃ m2, m2 = i - 1 := ⟨_, rfl⟩
          rw [← hm2e] at own8 hL0m ⊢
          have hm2i : m2 ≤ 1000000 := by omega
          have own4 := own8
          clear own8 cW hb8 hw25 HB4 hgi him hi1 hoi hiz hoz hlen hm2e hL0e
          obtain ⟨z, hzz⟩ : ∃ z, z = z0 := ⟨_, rfl⟩
          subst hzz
          have hm2 : m2 + 1 ≤ 1000001 := by omega
          have OW := Lib.hid own4
          clear own4
          go_wp2_with (at_builtin; refine wpList_as ?_)
          intro _
          refine wpList_append_own_at _ rfl _ _ 40 rfl w2.drew.heap.size 32 i0 _ 4 32 Try.underlying40 hi0 hz0 hz1 hz2 rfl (by decide) _ _ _ rfl (OW.out.alloc _) ⟨w8.heap.size, 0, none⟩ 1 1 [.int .i64 0, .int .i64 0, .int .u32 0, .int .i64 0] rfl rfl (fun j u hj => cell_new_block w8 _ 32 j u hj) (Ln.enc_one zeroL) (by unfold maxLen; omega) (by omega) (by simp; omega) ?_
          intro v' w9 ownN hgrow hnil hat
          have bS : Below w2.heap.size w8 w9 := below_append (k := 4) ((Below.refl w2.heap.size w8).alloc hw24 (.cells #[.int .i64 0, .int .i64 0, .int .u32 0, .int .i64 0] 32)) hgrow (by simp; omega) (OW.out.alloc _) (Nat.le_refl _)
          have hs9 : w2.heap.size ≤ w9.heap.size := by have := hgrow.size; simp at this; omega
          replace X := X.belowB hXl bS hs9
          replace Y := Y.belowB hYl bS hs9
          replace Z := Z.belowB hZl bS hs9
          replace O := O.belowB hOl bS hs9
          replace b4 := b4.trans (bS.mono b1.size)
          rw [enc_zero] at ownN
          obtain ⟨L1, hLe⟩ : ∃ L1, L1 = L0 ++ [zeroL] := ⟨_, rfl⟩
          rw [← hLe] at ownN
          obtain ⟨mm, hme⟩ : ∃ mm, mm = m2 + 1 := ⟨_, rfl⟩
          rw [← hme] at ownN
          obtain ⟨g, c3, rfl⟩ := own_slice ownN (by omega)
          have hL1 : L1.length = mm := by rw [hLe, hme, List.length_append, hL0m]; rfl
          have own4 := ownN
          obtain ⟨kk, hkke⟩ : ∃ kk, kk = m2 := ⟨_, rfl⟩
          have hkm : kk < mm := by omega
          have hset : L0 ++ [⟨t, st, v, ck⟩] = L1.set kk ⟨t, st, v, ck⟩ := by rw [hLe, hkke, ← hL0m, set_last]
          rw [hset] at HYY
          have hbs : w2.heap.size ≤ w2.drew.heap.size := Nat.le_refl _
          replace hw24 := hs9
          clear OW ownN hgrow hnil hat bS hs9 hset hLe hL0m
          subst hkke
          have HME := Lib.hid hme
          clear hme
          have hgb : w2.heap.size ≤ g := Nat.le_trans hbs (own_block own4).1
          have hm3 := (own_cap own4).1
          have hkl : kk < L1.length := by rw [hL1]; exact hkm
          have gq0 := flat_at Ln.enc_len L1 kk 0 _ hkl rfl
          rw [Nat.add_zero] at gq0
          have gc0 := own_cell own4 _ _ gq0
          have gc1 := own_cell own4 _ _ (flat_at Ln.enc_len L1 kk 1 _ hkl rfl)
          have gc2 := own_cell own4 _ _ (flat_at Ln.enc_len L1 kk 2 _ hkl rfl)
          have gc3 := own_cell own4 _ _ (flat_at Ln.enc_len L1 kk 3 _ hkl rfl)
          have gf0 := own_frozen own4 (kk * 4)
          have gf1 := own_frozen own4 (kk * 4 + 1)
          have gf2 := own_frozen own4 (kk * 4 + 2)
          have gf3 := own_frozen own4 (kk * 4 + 3)
          have ng1 : g ≠ CX := by omega
          have ng2 := ng1.symm
          have ng3 : g ≠ YX := by omega
          have ng4 : g ≠ ZX := by omega
          have ng5 : g ≠ OX := by omega
          have hkz : (kk : Int) < (mm : Int) := by omega
          obtain ⟨l', hl'e⟩ : ∃ l', l' = L1.set kk ⟨t, st, v, ck⟩ := ⟨_, rfl⟩
          have hl' : l'.length = mm := by rw [hl'e, List.length_set]; exact hL1
          rw [← hl'e] at HYY
          have o5 := own_line (own_far own4 (X := CX) (Nat.lt_of_lt_of_le hXl hbs) 2 (.int .i64 ck)) hkl ⟨t, st, v, ck⟩
          rw [← hl'e] at o5
          have X5 := ((((X.set 2 (.int .i64 ck) (by simp)).far (Y := g) ng1 (kk * 4) (.int .i64 t)).far (Y := g) ng1 (kk * 4 + 1) (.int .i64 st)).far (Y := g) ng1 (kk * 4 + 2) (.int .u32 v)).far (Y := g) ng1 (kk * 4 + 3) (.int .i64 ck)
          have Y5 := ((((Y.far (Y := CX) (by omega) 2 (.int .i64 ck)).far (Y := g) ng3 (kk * 4) (.int .i64 t)).far (Y := g) ng3 (kk * 4 + 1) (.int .i64 st)).far (Y := g) ng3 (kk * 4 + 2) (.int .u32 v)).far (Y := g) ng3 (kk * 4 + 3) (.int .i64 ck)
          have Z5 := ((((Z.far (Y := CX) (by omega) 2 (.int .i64 ck)).far (Y := g) ng4 (kk * 4) (.int .i64 t)).far (Y := g) ng4 (kk * 4 + 1) (.int .i64 st)).far (Y := g) ng4 (kk * 4 + 2) (.int .u32 v)).far (Y := g) ng4 (kk * 4 + 3) (.int .i64 ck)
          have O5 := ((((O.far (Y := CX) (by omega) 2 (.int .i64 ck)).far (Y := g) ng5 (kk * 4) (.int .i64 t)).far (Y := g) ng5 (kk * 4 + 1) (.int .i64 st)).far (Y := g) ng5 (kk * 4 + 2) (.int .u32 v)).far (Y := g) ng5 (kk * 4 + 3) (.int .i64 ck)
          have hwg : w.heap.size ≤ g := by have := b1.size; omega
          have b6 := ((((b4.setCell (p := ⟨CX, 2, none⟩) (by show w.heap.size ≤ CX; omega) (.int .i64 ck)).setCell (p := ⟨g, kk * 4, none⟩) hwg (.int .i64 t)).setCell (p := ⟨g, kk * 4 + 1, none⟩) hwg (.int .i64 st)).setCell (p := ⟨g, kk * 4 + 2, none⟩) hwg (.int .u32 v)).setCell (p := ⟨g, kk * 4 + 3, none⟩) hwg (.int .i64 ck)
          have hsz5 : w2.heap.size ≤ ((((((w9.setCell ⟨CX, 2, none⟩ (.int .i64 ck)).setCell ⟨g, kk * 4, none⟩ (.int .i64 t)).setCell ⟨g, kk * 4 + 1, none⟩ (.int .i64 st)).setCell ⟨g, kk * 4 + 2, none⟩ (.int .u32 v)).setCell ⟨g, kk * 4 + 3, none⟩ (.int .i64 ck))).heap.size := by simp; exact hw24
          have x0 := X.cell 0 _ rfl
          have x1 := X.cell 1 _ rfl
          have x2 := X.cell 2 _ rfl
          have x3 := X.cell 3 _ rfl
          have fx2 := X.froz 2
          have hwck := HWCK.out
          clear X Y Z O b4 own4 gq0 hw24
          go_wp2_with fail
          clear x0 x1 x2 x3 fx2 gc0 gc1 gc2 gc3 gf0 gf1 gf2 gf3 hwck
          generalize (((((w9.setCell ⟨CX, 2, none⟩ (.int .i64 ck)).setCell ⟨g, kk * 4, none⟩ (.int .i64 t)).setCell ⟨g, kk * 4 + 1, none⟩ (.int .i64 st)).setCell ⟨g, kk * 4 + 2, none⟩ (.int .u32 v)).setCell ⟨g, kk * 4 + 3, none⟩ (.int .i64 ck)) = W5 at *
          have HC5 := HC0.out.below b6.drew
          have hsl5 := (Sl.of_own Ln.enc_len o5 hl').below (Below.refl W5.heap.size W5).drew
          have hw25 : w2.heap.size ≤ W5.drew.heap.size := hsz5
          replace X5 : Bx W5 CX [.int .i64 x.sets, .int .i64 x.ways, .int .i64 ck, .slice (some ⟨bb, off, none⟩) n c] := X5
          have x0 : W5.drew.cell? ⟨CX, 0, none⟩ = _ := X5.cell 0 _ rfl
          have x1 : W5.drew.cell? ⟨CX, 1, none⟩ = _ := X5.cell 1 _ rfl
          have x2 : W5.drew.cell? ⟨CX, 2, none⟩ = _ := X5.cell 2 _ rfl
          have x3 : W5.drew.cell? ⟨CX, 3, none⟩ = _ := X5.cell 3 _ rfl
          have hbase : w.heap.size ≤ W5.drew.heap.size := b6.size
          have hb_YX : w.heap.size ≤ YX := by omega
          have hb_ZX : w.heap.size ≤ ZX := by omega
          have P_YX : YX < w2.heap.size ∧ CFar YX (some ⟨bb, off, none⟩) x.lines hs := ⟨hYl, HFAR⟩
          have P_ZX : ZX < w2.heap.size ∧ CFar ZX (some ⟨bb, off, none⟩) x.lines hs := ⟨hZl, HFAR2⟩
          have ne_YX_ZX : YX ≠ ZX := by omega
          have ne_ZX_YX : ZX ≠ YX := by omega
          have oY := Y5.below (Below.refl W5.heap.size W5).drew
          have oZ := Z5.below (Below.refl W5.heap.size W5).drew
          have oO := O5.below (Below.refl W5.heap.size W5).drew
          have ne_YX_OX : YX ≠ OX := by omega
          have ne_ZX_OX : ZX ≠ OX := by omega
          have hst := HST.out
          have hst2 := HST2.out
          have hsw := HSW.out
          refine wp_region_rg (by kernel_rfl) (by kernel_rfl) [106, 107, 108, 109, 110, 111, 112, 113, 10] (RpRPhi W5.drew w.heap.size CX YX ZX OX bb off n c s g mm c3 w2.heap.size t ck x y z hs) ?h0 ⟨?q0, ?q1, ?q2, ?q3, ?q4, ?q5, ?q6, ?q7, ?q8, ?q9, ?q10, trivial⟩ ?hend
          case h0 => exact ⟨_, _, _, _, _, _, _, _, _, _, rfl, ⟨Below.refl _ _, (fun _ => Below.refl _ _), (fun h => by cases h), (fun h => by cases h), (fun h => by cases h), (fun h => by cases h), (fun h => by cases h), (fun h => by cases h), (fun h => by cases h), (fun h => by cases h), (oO), (fun _ => oY), (fun h => by cases h), (fun _ => oZ), (fun h => by cases h), (fun h => by cases h)⟩, rfl⟩
          case q0 =>
            rintro L vs w' K ⟨u106, u107, u108, u109, u110, u111, u112, u113, u10, wz, rfl, φ, rfl⟩ hL hpre hcl hK G hG
            simp [Region.binds, closedFrom] at hpre hcl
            have L8 : L 8 = false := by
              cases h : L 8 with
              | false => rfl
              | true => simp [h, hL] at hcl
            have hb := φ.b0 L8
            have ce0 := (hb.cell (p := ⟨CX, 0, none⟩) (World.block_lt_of_cell? _ _ x0)).trans x0
            have ce1 := (hb.cell (p := ⟨CX, 1, none⟩) (World.block_lt_of_cell? _ _ x1)).trans x1
            have ce2 := (hb.cell (p := ⟨CX, 2, none⟩) (World.block_lt_of_cell? _ _ x2)).trans x2
            have ce3 := (hb.cell (p := ⟨CX, 3, none⟩) (World.block_lt_of_cell? _ _ x3)).trans x3
            have hk := hK [(.agg #[.int .i64 x.sets, .int .i64 x.ways, .int .i64 ck, .slice (some ⟨bb, off, none⟩) n c]), u107, u108, u109, u110, u111, u112, u113, u10] wz ⟨_, _, _, _, _, _, _, _, _, wz, rfl,
              { b := φ.b,
                b0 := fun h0 => φ.b0 (by simpa using h0),
                s0 := fun _ => rfl,
                s1 := fun h0 => φ.s1 (by simpa using h0),
                s2 := fun h0 => φ.s2 (by simpa using h0),
                s3 := fun h0 => φ.s3 (by simpa using h0),
                s4 := fun h0 => φ.s4 (by simpa using h0),
                s5 := fun h0 => φ.s5 (by simpa using h0),
                e6 := fun h0 h1 => φ.e6 (by simpa using h0) (by simpa using h1),
                s7 := fun h0 => φ.s7 (by simpa using h0),
                q7 := φ.q7,
                o8 := fun h0 => φ.o8 (by simpa using h0),
                r8 := fun h0 => φ.r8 (by simpa using h0),
                o9 := fun h0 => φ.o9 (by simpa using h0),
                r9 := fun h0 => φ.r9 (by simpa using h0),
                s10 := fun h0 => φ.s10 (by simpa using h0) }, rfl⟩
            refine hG ?_
            clear hK φ hG
            revert hk
            go_simp
            first | done | exact fun h => h
          case q1 =>
            rintro L vs w' K ⟨u106, u107, u108, u109, u110, u111, u112, u113, u10, wz, rfl, φ, rfl⟩ hL hpre hcl hK G hG
            simp [Region.binds, closedFrom] at hpre hcl
            have L8 : L 8 = false := by
              cases h : L 8 with
              | false => rfl
              | true => simp [h, hL] at hcl
            have hb := φ.b0 L8
            have hk := hK [u106, (.int .i64 t), u108, u109, u110, u111, u112, u113, u10] wz ⟨_, _, _, _, _, _, _, _, _, wz, rfl,
              { b := φ.b,
                b0 := fun h0 => φ.b0 (by simpa using h0),
                s0 := fun h0 => φ.s0 (by simpa using h0),
                s1 := fun _ => rfl,
                s2 := fun h0 => φ.s2 (by simpa using h0),
                s3 := fun h0 => φ.s3 (by simpa using h0),
                s4 := fun h0 => φ.s4 (by simpa using h0),
                s5 := fun h0 => φ.s5 (by simpa using h0),
                e6 := fun h0 h1 => φ.e6 (by simpa using h0) (by simpa using h1),
                s7 := fun h0 => φ.s7 (by simpa using h0),
                q7 := φ.q7,
                o8 := fun h0 => φ.o8 (by simpa using h0),
                r8 := fun h0 => φ.r8 (by simpa using h0),
                o9 := fun h0 => φ.o9 (by simpa using h0),
                r9 := fun h0 => φ.r9 (by simpa using h0),
                s10 := fun h0 => φ.s10 (by simpa using h0) }, rfl⟩
            refine hG ?_
            clear hK φ hG
            revert hk
            go_simp
            first | done | exact fun h => h
          case q2 =>
            rintro L vs w' K ⟨u106, u107, u108, u109, u110, u111, u112, u113, u10, wz, rfl, φ, rfl⟩ hL hpre hcl hK G hG
            simp [Region.binds, closedFrom] at hpre hcl
            have L8 : L 8 = false := by
              cases h : L 8 with
              | false => rfl
              | true => simp [h, hL] at hcl
            have hb := φ.b0 L8
            have hk := hK [u106, u107, (.pointer (some ⟨CX, 0, none⟩)), u109, u110, u111, u112, u113, u10] wz ⟨_, _, _, _, _, _, _, _, _, wz, rfl,
              { b := φ.b,
                b0 := fun h0 => φ.b0 (by simpa using h0),
                s0 := fun h0 => φ.s0 (by simpa using h0),
                s1 := fun h0 => φ.s1 (by simpa using h0),
                s2 := fun _ => rfl,
                s3 := fun h0 => φ.s3 (by simpa using h0),
                s4 := fun h0 => φ.s4 (by simpa using h0),
                s5 := fun h0 => φ.s5 (by simpa using h0),
                e6 := fun h0 h1 => φ.e6 (by simpa using h0) (by simpa using h1),
                s7 := fun h0 => φ.s7 (by simpa using h0),
                q7 := φ.q7,
                o8 := fun h0 => φ.o8 (by simpa using h0),
                r8 := fun h0 => φ.r8 (by simpa using h0),
                o9 := fun h0 => φ.o9 (by simpa using h0),
                r9 := fun h0 => φ.r9 (by simpa using h0),
                s10 := fun h0 => φ.s10 (by simpa using h0) }, rfl⟩
            refine hG ?_
            clear hK φ hG
            revert hk
            go_simp
            first | done | exact fun h => h
          case q3 =>
            rintro L vs w' K ⟨u106, u107, u108, u109, u110, u111, u112, u113, u10, wz, rfl, φ, rfl⟩ hL hpre hcl hK G hG
            simp [Region.binds, closedFrom] at hpre hcl
            have e2 := φ.s2 (by simp [hpre])
            subst e2
            have L8 : L 8 = false := by
              cases h : L 8 with
              | false => rfl
              | true => simp [h, hL] at hcl
            have hb := φ.b0 L8
            have ce0 := (hb.cell (p := ⟨CX, 0, none⟩) (World.block_lt_of_cell? _ _ x0)).trans x0
            have hk := hK [u106, u107, (.pointer (some ⟨CX, 0, none⟩)), (.int .i64 x.sets), u110, u111, u112, u113, u10] wz ⟨_, _, _, _, _, _, _, _, _, wz, rfl,
              { b := φ.b,
                b0 := fun h0 => φ.b0 (by simpa using h0),
                s0 := fun h0 => φ.s0 (by simpa using h0),
                s1 := fun h0 => φ.s1 (by simpa using h0),
                s2 := fun h0 => φ.s2 (by simpa using h0),
                s3 := fun _ => rfl,
                s4 := fun h0 => φ.s4 (by simpa using h0),
                s5 := fun h0 => φ.s5 (by simpa using h0),
                e6 := fun h0 h1 => φ.e6 (by simpa using h0) (by simpa using h1),
                s7 := fun h0 => φ.s7 (by simpa using h0),
                q7 := φ.q7,
                o8 := fun h0 => φ.o8 (by simpa using h0),
                r8 := fun h0 => φ.r8 (by simpa using h0),
                o9 := fun h0 => φ.o9 (by simpa using h0),
                r9 := fun h0 => φ.r9 (by simpa using h0),
                s10 := fun h0 => φ.s10 (by simpa using h0) }, rfl⟩
            refine hG ?_
            clear hK φ hG
            revert hk
            go_simp
            first | done | exact fun h => h
          case q4 =>
            rintro L vs w' K ⟨u106, u107, u108, u109, u110, u111, u112, u113, u10, wz, rfl, φ, rfl⟩ hL hpre hcl hK G hG
            simp [Region.binds, closedFrom] at hpre hcl
            have e1 := φ.s1 (by simp [hpre])
            subst e1
            have e3 := φ.s3 (by simp [hpre])
            subst e3
            have L8 : L 8 = false := by
              cases h : L 8 with
              | false => rfl
              | true => simp [h, hL] at hcl
            have hb := φ.b0 L8
            have hk := hK [u106, (.int .i64 t), u108, (.int .i64 x.sets), (.int .i64 (s : Int)), u111, u112, u113, u10] wz ⟨_, _, _, _, _, _, _, _, _, wz, rfl,
              { b := φ.b,
                b0 := fun h0 => φ.b0 (by simpa using h0),
                s0 := fun h0 => φ.s0 (by simpa using h0),
                s1 := fun h0 => φ.s1 (by simpa using h0),
                s2 := fun h0 => φ.s2 (by simpa using h0),
                s3 := fun h0 => φ.s3 (by simpa using h0),
                s4 := fun _ => rfl,
                s5 := fun h0 => φ.s5 (by simpa using h0),
                e6 := fun h0 h1 => φ.e6 (by simpa using h0) (by simpa using h1),
                s7 := fun h0 => φ.s7 (by simpa using h0),
                q7 := φ.q7,
                o8 := fun h0 => φ.o8 (by simpa using h0),
                r8 := fun h0 => φ.r8 (by simpa using h0),
                o9 := fun h0 => φ.o9 (by simpa using h0),
                r9 := fun h0 => φ.r9 (by simpa using h0),
                s10 := fun h0 => φ.s10 (by simpa using h0) }, rfl⟩
            refine hG ?_
            clear hK φ hG
            revert hk
            go_simp
            first | done | exact fun h => h
          case q5 =>
            rintro L vs w' K ⟨u106, u107, u108, u109, u110, u111, u112, u113, u10, wz, rfl, φ, rfl⟩ hL hpre hcl hK G hG
            simp [Region.binds, closedFrom] at hpre hcl
            have L8 : L 8 = false := by
              cases h : L 8 with
              | false => rfl
              | true => simp [h, hL] at hcl
            have hb := φ.b0 L8
            have hk := hK [u106, u107, u108, u109, u110, (.slice (some ⟨g, 0, none⟩) mm c3), u112, u113, u10] wz ⟨_, _, _, _, _, _, _, _, _, wz, rfl,
              { b := φ.b,
                b0 := fun h0 => φ.b0 (by simpa using h0),
                s0 := fun h0 => φ.s0 (by simpa using h0),
                s1 := fun h0 => φ.s1 (by simpa using h0),
                s2 := fun h0 => φ.s2 (by simpa using h0),
                s3 := fun h0 => φ.s3 (by simpa using h0),
                s4 := fun h0 => φ.s4 (by simpa using h0),
                s5 := fun _ => rfl,
                e6 := fun h0 h1 => φ.e6 (by simpa using h0) (by simpa using h1),
                s7 := fun h0 => φ.s7 (by simpa using h0),
                q7 := φ.q7,
                o8 := fun h0 => φ.o8 (by simpa using h0),
                r8 := fun h0 => φ.r8 (by simpa using h0),
                o9 := fun h0 => φ.o9 (by simpa using h0),
                r9 := fun h0 => φ.r9 (by simpa using h0),
                s10 := fun h0 => φ.s10 (by simpa using h0) }, rfl⟩
            refine hG ?_
            clear hK φ hG
            revert hk
            go_simp
            first | done | exact fun h => h
          case q6 =>
            rintro L vs w' K ⟨u106, u107, u108, u109, u110, u111, u112, u113, u10, wz, rfl, φ, rfl⟩ hL hpre hcl hK G hG
            simp [Region.binds, closedFrom] at hpre hcl
            have e0 := φ.s0 (by simp [hpre])
            subst e0
            have e4 := φ.s4 (by simp [hpre])
            subst e4
            have e5 := φ.s5 (by simp [hpre])
            subst e5
            have L8 : L 8 = false := by
              cases h : L 8 with
              | false => rfl
              | true => simp [h, hL] at hcl
            have L9 : L 9 = false := by
              cases h : L 9 with
              | false => rfl
              | true => simp [h, hL, L8] at hcl
            have L10 : L 10 = false := by
              cases h : L 10 with
              | false => rfl
              | true => simp [h, hL, L8, L9] at hcl
            have hb := φ.b0 L8
            refine hG (step_call wz rfl 36 #[.tmp 106, .tmp 110, .tmp 111] #[26, 3, 40] rfl #[.agg #[.int .i64 x.sets, .int .i64 x.ways, .int .i64 ck, .slice (some ⟨bb, off, none⟩) n c], .int .i64 (s : Int), .slice (some ⟨g, 0, none⟩) mm c3] (by simp [Act.eval, Act.puts, Act.put]) (enters_of Try.func36 (by kernel_rfl) rfl) (show Calls Try.prog 36 _ wz (fun e w' => ∃ v, e = .returned v ∧ CRes w' (fun Y => Y < w2.heap.size ∧ CFar Y (some ⟨bb, off, none⟩) x.lines hs) y v ∧ Below wz.heap.size wz w') from (with_any _ c n s ⟨x.sets, x.ways, ck, x.lines⟩ hs (some ⟨g, 0, none⟩) mm c3 l' wz (HC5.below hb) HN.out hn1 (by rw [← HN.out]; exact HSN.out) hl' hm3 (fun e => by cases e) (hsl5.below hb)).mono fun e w' ⟨v, e1, hv, h⟩ => ⟨v, e1, by rw [← HYY.out] at hv; exact hv.weak (fun Y hY => ⟨Nat.lt_of_lt_of_le hY.1 (Nat.le_trans hw25 hb.size), hY.2, fun _ a e => by have := hY.1; rw [← Option.some.inj e]; show g ≠ Y; omega⟩), h⟩) ?_)
            rintro e w9 ⟨v9, rfl, hv9, hb9⟩
            refine ⟨_, rfl, ?_⟩
            have hk := hK [(.agg #[.int .i64 x.sets, .int .i64 x.ways, .int .i64 ck, .slice (some ⟨bb, off, none⟩) n c]), u107, u108, u109, (.int .i64 (s : Int)), (.slice (some ⟨g, 0, none⟩) mm c3), (v9), u113, u10] w9 ⟨_, _, _, _, _, _, _, _, _, w9, rfl,
              { b := φ.b.trans (hb9.mono (Nat.le_trans hbase hb.size)),
                b0 := fun _ => hb.trans (hb9.mono hb.size),
                s0 := fun h0 => φ.s0 (by simpa using h0),
                s1 := fun h0 => φ.s1 (by simpa using h0),
                s2 := fun h0 => φ.s2 (by simpa using h0),
                s3 := fun h0 => φ.s3 (by simpa using h0),
                s4 := fun h0 => φ.s4 (by simpa using h0),
                s5 := fun h0 => φ.s5 (by simpa using h0),
                e6 := fun _ _ => hv9,
                s7 := fun h0 => φ.s7 (by simpa using h0),
                q7 := φ.q7.below hb9,
                o8 := fun _ => (φ.o8 L8).below hb9,
                r8 := fun h => by simp [L8] at h,
                o9 := fun _ => (φ.o9 L9).below hb9,
                r9 := fun h => by simp [L9] at h,
                s10 := fun h => by simp [L10] at h }, rfl⟩
            clear hK φ hG
            revert hk
            go_simp
            first | done | exact fun h => h
          case q7 =>
            rintro L vs w' K ⟨u106, u107, u108, u109, u110, u111, u112, u113, u10, wz, rfl, φ, rfl⟩ hL hpre hcl hK G hG
            simp [Region.binds, closedFrom] at hpre hcl
            have z0 := φ.q7.cell 0 _ rfl
            have z1 := φ.q7.cell 1 _ rfl
            have z2 := φ.q7.cell 2 _ rfl
            have z3 := φ.q7.cell 3 _ rfl
            have hk := hK [u106, u107, u108, u109, u110, u111, u112, (.agg #[.int .i64 z.addr, .int .i64 z.state, .int .u32 z.val_, .int .i64 z.used]), u10] wz ⟨_, _, _, _, _, _, _, _, _, wz, rfl,
              { b := φ.b,
                b0 := fun h0 => φ.b0 (by simpa using h0),
                s0 := fun h0 => φ.s0 (by simpa using h0),
                s1 := fun h0 => φ.s1 (by simpa using h0),
                s2 := fun h0 => φ.s2 (by simpa using h0),
                s3 := fun h0 => φ.s3 (by simpa using h0),
                s4 := fun h0 => φ.s4 (by simpa using h0),
                s5 := fun h0 => φ.s5 (by simpa using h0),
                e6 := fun h0 h1 => φ.e6 (by simpa using h0) (by simpa using h1),
                s7 := fun _ => rfl,
                q7 := φ.q7,
                o8 := fun h0 => φ.o8 (by simpa using h0),
                r8 := fun h0 => φ.r8 (by simpa using h0),
                o9 := fun h0 => φ.o9 (by simpa using h0),
                r9 := fun h0 => φ.r9 (by simpa using h0),
                s10 := fun h0 => φ.s10 (by simpa using h0) }, rfl⟩
            refine hG ?_
            clear hK φ hG
            revert hk
            go_simp
            first | done | exact fun h => h
          case q8 =>
            rintro L vs w' K ⟨u106, u107, u108, u109, u110, u111, u112, u113, u10, wz, rfl, φ, rfl⟩ hL hpre hcl hK G hG
            simp [Region.binds, closedFrom] at hpre hcl
            have L9 : L 9 = false := by
              cases h : L 9 with
              | false => rfl
              | true => simp [h, hL] at hcl
            have L10 : L 10 = false := by
              cases h : L 10 with
              | false => rfl
              | true => simp [h, hL, L9] at hcl
            obtain ⟨B, d, hs9, ev, hci, hfar⟩ := φ.e6 (by simp [hpre]) hL
            subst ev
            have BX := φ.o8 hL
            have z0 := BX.cell 0 _ rfl
            have q0 := BX.froz 0
            have z1 := BX.cell 1 _ rfl
            have q1 := BX.froz 1
            have z2 := BX.cell 2 _ rfl
            have q2 := BX.froz 2
            have z3 := BX.cell 3 _ rfl
            have q3 := BX.froz 3
            have hk := hK [u106, u107, u108, u109, u110, u111, (.agg #[.int .i64 y.sets, .int .i64 y.ways, .int .i64 y.clock, .slice B y.lines.length d]), u113, u10] ((((wz.setCell ⟨YX, 0, none⟩ (.int .i64 y.sets)).setCell ⟨YX, 1, none⟩ (.int .i64 y.ways)).setCell ⟨YX, 2, none⟩ (.int .i64 y.clock)).setCell ⟨YX, 3, none⟩ (.slice B y.lines.length d)) ⟨_, _, _, _, _, _, _, _, _, ((((wz.setCell ⟨YX, 0, none⟩ (.int .i64 y.sets)).setCell ⟨YX, 1, none⟩ (.int .i64 y.ways)).setCell ⟨YX, 2, none⟩ (.int .i64 y.clock)).setCell ⟨YX, 3, none⟩ (.slice B y.lines.length d)), rfl,
              { b := ((((φ.b.setCell (p := ⟨YX, 0, none⟩) hb_YX _).setCell (p := ⟨YX, 1, none⟩) hb_YX _).setCell (p := ⟨YX, 2, none⟩) hb_YX _).setCell (p := ⟨YX, 3, none⟩) hb_YX _),
                b0 := fun h => by simp at h,
                s0 := fun h0 => φ.s0 (by simpa using h0),
                s1 := fun h0 => φ.s1 (by simpa using h0),
                s2 := fun h0 => φ.s2 (by simpa using h0),
                s3 := fun h0 => φ.s3 (by simpa using h0),
                s4 := fun h0 => φ.s4 (by simpa using h0),
                s5 := fun h0 => φ.s5 (by simpa using h0),
                e6 := fun _ h => by simp at h,
                s7 := fun h0 => φ.s7 (by simpa using h0),
                q7 := φ.q7.far4 ne_YX_OX _ _ _ _,
                o8 := fun h => by simp at h,
                r8 := fun _ => ⟨B, d, hs9, BX.set4 _ _ _ _, (((hci.setFar (hfar _ P_YX) 0 _).setFar (hfar _ P_YX) 1 _).setFar (hfar _ P_YX) 2 _).setFar (hfar _ P_YX) 3 _, hfar⟩,
                o9 := fun h => (φ.o9 (by simpa using h)).far4 ne_YX_ZX _ _ _ _,
                r9 := fun h => by simp [L9] at h,
                s10 := fun h => by simp [L10] at h }, rfl⟩
            refine hG ?_
            clear hK φ hG
            revert hk
            go_simp
            first | done | exact fun h => h
          case q9 =>
            rintro L vs w' K ⟨u106, u107, u108, u109, u110, u111, u112, u113, u10, wz, rfl, φ, rfl⟩ hL hpre hcl hK G hG
            simp [Region.binds, closedFrom] at hpre hcl
            have L10 : L 10 = false := by
              cases h : L 10 with
              | false => rfl
              | true => simp [h, hL] at hcl
            have e7 := φ.s7 (by simp [hpre])
            subst e7
            have BX := φ.o9 hL
            have z0 := BX.cell 0 _ rfl
            have q0 := BX.froz 0
            have z1 := BX.cell 1 _ rfl
            have q1 := BX.froz 1
            have z2 := BX.cell 2 _ rfl
            have q2 := BX.froz 2
            have z3 := BX.cell 3 _ rfl
            have q3 := BX.froz 3
            have hk := hK [u106, u107, u108, u109, u110, u111, u112, (.agg #[.int .i64 z.addr, .int .i64 z.state, .int .u32 z.val_, .int .i64 z.used]), u10] ((((wz.setCell ⟨ZX, 0, none⟩ (.int .i64 z.addr)).setCell ⟨ZX, 1, none⟩ (.int .i64 z.state)).setCell ⟨ZX, 2, none⟩ (.int .u32 z.val_)).setCell ⟨ZX, 3, none⟩ (.int .i64 z.used)) ⟨_, _, _, _, _, _, _, _, _, ((((wz.setCell ⟨ZX, 0, none⟩ (.int .i64 z.addr)).setCell ⟨ZX, 1, none⟩ (.int .i64 z.state)).setCell ⟨ZX, 2, none⟩ (.int .u32 z.val_)).setCell ⟨ZX, 3, none⟩ (.int .i64 z.used)), rfl,
              { b := ((((φ.b.setCell (p := ⟨ZX, 0, none⟩) hb_ZX _).setCell (p := ⟨ZX, 1, none⟩) hb_ZX _).setCell (p := ⟨ZX, 2, none⟩) hb_ZX _).setCell (p := ⟨ZX, 3, none⟩) hb_ZX _),
                b0 := fun h => by simp [hpre] at h,
                s0 := fun h0 => φ.s0 (by simpa using h0),
                s1 := fun h0 => φ.s1 (by simpa using h0),
                s2 := fun h0 => φ.s2 (by simpa using h0),
                s3 := fun h0 => φ.s3 (by simpa using h0),
                s4 := fun h0 => φ.s4 (by simpa using h0),
                s5 := fun h0 => φ.s5 (by simpa using h0),
                e6 := fun _ h => by simp [hpre] at h,
                s7 := fun h0 => φ.s7 (by simpa using h0),
                q7 := φ.q7.far4 ne_ZX_OX _ _ _ _,
                o8 := fun h => by simp [hpre] at h,
                r8 := fun h => ((((φ.r8 (by simpa using h)).far P_ZX ne_ZX_YX 0 _).far P_ZX ne_ZX_YX 1 _).far P_ZX ne_ZX_YX 2 _).far P_ZX ne_ZX_YX 3 _,
                o9 := fun h => by simp at h,
                r9 := fun _ => BX.set4 _ _ _ _,
                s10 := fun h => by simp [L10] at h }, rfl⟩
            refine hG ?_
            clear hK φ hG
            revert hk
            go_simp
            first | done | exact fun h => h
          case q10 =>
            rintro L vs w' K ⟨u106, u107, u108, u109, u110, u111, u112, u113, u10, wz, rfl, φ, rfl⟩ hL hpre hcl hK G hG
            simp [Region.binds, closedFrom] at hpre hcl
            have hk := hK [u106, u107, u108, u109, u110, u111, u112, u113, (.int .i64 0)] wz ⟨_, _, _, _, _, _, _, _, _, wz, rfl,
              { b := φ.b,
                b0 := fun h0 => φ.b0 (by simpa using h0),
                s0 := fun h0 => φ.s0 (by simpa using h0),
                s1 := fun h0 => φ.s1 (by simpa using h0),
                s2 := fun h0 => φ.s2 (by simpa using h0),
                s3 := fun h0 => φ.s3 (by simpa using h0),
                s4 := fun h0 => φ.s4 (by simpa using h0),
                s5 := fun h0 => φ.s5 (by simpa using h0),
                e6 := fun h0 h1 => φ.e6 (by simpa using h0) (by simpa using h1),
                s7 := fun h0 => φ.s7 (by simpa using h0),
                q7 := φ.q7,
                o8 := fun h0 => φ.o8 (by simpa using h0),
                r8 := fun h0 => φ.r8 (by simpa using h0),
                o9 := fun h0 => φ.o9 (by simpa using h0),
                r9 := fun h0 => φ.r9 (by simpa using h0),
                s10 := fun _ => rfl }, rfl⟩
            refine hG ?_
            clear hK φ hG
            revert hk
            go_simp
            first | done | exact fun h => h
          case hend =>
            rintro vs w' ⟨u106, u107, u108, u109, u110, u111, u112, u113, u10, wz, rfl, φ, rfl⟩ G hG
            have bz := φ.b
            have r8 := φ.r8 rfl
            have r9 := φ.r9 rfl
            obtain rfl := φ.s10 rfl
            clear φ
            refine hG ?_
            clear hG
            have bF : Below w.heap.size w wz := b6.drew.trans bz
            obtain ⟨B9, d9, hs9, bx9, ci9, far9⟩ := r8
            have y0 := bx9.cell 0 _ rfl
            have y1 := bx9.cell 1 _ rfl
            have y2 := bx9.cell 2 _ rfl
            have y3 := bx9.cell 3 _ rfl
            have k0 := r9.cell 0 _ rfl
            have k1 := r9.cell 1 _ rfl
            have k2 := r9.cell 2 _ rfl
            have k3 := r9.cell 3 _ rfl
            have hw2 : w.heap.size ≤ w2.heap.size := b1.size
            clear bz bx9 r9
            go_simp
            go_wp2_with fail
            exact bodyPost_ret (v := .tuple #[.agg #[.int .i64 y.sets, .int .i64 y.ways, .int .i64 y.clock, .slice B9 y.lines.length d9], .agg #[.int .i64 z.addr, .int .i64 z.state, .int .u32 z.val_, .int .i64 z.used], .int .i64 0]) (by simp [results, Try.results20, go_sem, y0, y1, y2, y3, k0, k1, k2, k3]) rfl ⟨_, rfl, ⟨B9, d9, hs9, rfl, ci9, fun Y hY => far9 Y ⟨Nat.lt_of_lt_of_le hY.1 hw2, hY.2⟩⟩, bF⟩
  · rw [hi] at hfo2
    exact absurd hfo2 (by omega)
end Go.Proofs.Ytdndanjabknjpaa
