/- The walk of cache.Drop. -/
import Derived.Test.YtdndanjabknjpaaQ
namespace Go.Proofs.Ytdndanjabknjpaa
open Go.RowKit Go.Lib
set_option linter.unusedVariables false
attribute [local go_sem] Act.puts
theorem frozen_of_block {w w' : World} {X : Nat} {j : Nat} (h : w'.heap[X]? = w.heap[X]?) : w'.frozen? ⟨X, j, none⟩ = w.frozen? ⟨X, j, none⟩ := World.frozen?_of_block (w := w) (w' := w') (a := ⟨X, j, none⟩) h
/-- A row is set anew. -/
theorem OwnC.swap {w w' : World} {base n s g d m c : Nat} {B : Option Addr} {ls : List (List Ln)} {hs : List Hd} {l : List Ln} (h : OwnC w base (.slice (some ⟨g, 0, none⟩) n d) n ls hs) (hsn : s < n) (hg : w.grownBy w' hs[s]!.val.ownBlock)
    (hr : w'.ownsRow base 32 4 (.slice B m c) m (l.flatMap Ln.enc)) (hl : l.length = m) (hb : (Value.slice B m c).ownBlock = hs[s]!.val.ownBlock ∨ (Value.slice B m c).ownBlock = none ∨ ∃ X, (Value.slice B m c).ownBlock = some X ∧ w.heap.size ≤ X) :
    OwnC (w'.setCell ⟨g, s, none⟩ (.slice B m c)) base (.slice (some ⟨g, 0, none⟩) n d) n (ls.set s l) (hs.set s ⟨B, m, c⟩) := by
  obtain ⟨i1, i2⟩ := h.inner s hsn
  have hout := h.outer.kept hg (own_two h.outer i2 (by decide))
  have hls : s < ls.length := by rw [h.num]; exact hsn
  have hhs : s < hs.length := by rw [h.len]; exact hsn
  have hout2 := own_set hout s (.slice B m c)
  have hsg := grown_set (j := s) (World.grownBy.refl w' (some g)) (.slice B m c)
  have hap0 : ∀ j, j < n → s ≠ j → Apart hs[j]!.val hs[s]!.val := fun j hj hjs => by
    rcases Nat.lt_or_gt_of_ne hjs with h1 | h1
    · exact (h.apart s j h1 hj).symm
    · exact h.apart j s h1 hsn
  have hap : ∀ j, j < n → s ≠ j → Apart hs[j]!.val (.slice B m c) := fun j hj hjs bb h1 h2 => by
    rcases hb with e | e | ⟨X, e, hX⟩
    · rw [e] at h2
      exact hap0 j hj hjs bb h1 h2
    · rw [e] at h2; cases h2
    · rw [e] at h2
      obtain rfl : X = bb := by simpa using h2
      have := ((h.inner j hj).2.lt X h1).2
      omega
  refine ⟨?_, by rw [List.length_set]; exact h.num, by rw [List.length_set]; exact h.len, fun j hj => ?_, fun i j hij hj => ?_⟩
  · have := flat_set Hd.enc_len hs s 0 ⟨B, m, c⟩ (.slice B m c) hhs (by decide) rfl
    rw [Nat.mul_one, Nat.add_zero] at this
    rw [← this]
    exact hout2
  · rw [setGet, setGet]
    by_cases hjs : s = j
    · subst hjs
      rw [if_pos ⟨rfl, hhs⟩, if_pos ⟨rfl, hls⟩]
      exact ⟨hl.symm, hr.kept hsg (own_two hr hout (by decide))⟩
    · rw [if_neg (fun hh => hjs hh.1), if_neg (fun hh => hjs hh.1)]
      obtain ⟨a1, a2⟩ := h.inner j hj
      refine ⟨a1, (a2.kept hg ?_).kept hsg ?_⟩
      · exact (hap0 j hj hjs).symm.or
      · exact own_two a2 h.outer (by decide)
  · rw [setGet, setGet]
    by_cases his : s = i
    · subst his
      rw [if_pos ⟨rfl, hhs⟩, if_neg (fun hh => by omega)]
      exact (hap j hj (by omega)).symm
    · rw [if_neg (fun hh => his hh.1)]
      by_cases hjs : s = j
      · subst hjs
        rw [if_pos ⟨rfl, hhs⟩]
        exact hap i (by omega) his
      · rw [if_neg (fun hh => hjs hh.1)]
        exact h.apart i j hij hj
def dropC (x : Ca) (t : Int) : Ca × Int := if rightC x = true ∧ 0 ≤ t then (if idxA (setOf x t) t < 0 then (x, 7) else (⟨x.sets, x.ways, x.clock, x.lines.set (t.tmod x.sets).toNat (x.lines[(t.tmod x.sets).toNat]!.eraseIdx (idxA (setOf x t) t).toNat)⟩, 0)) else (x, 1)
structure DrR (w0 : World) (base DX g bq n d m c2 s k : Nat) (l : List Ln) (L : Nat → Bool) (u28 u29 u30 u31 u32 u33 u34 u35 u36 u37 u38 u39 u40 : Value) (wz : World) : Prop where
  b : w0.grownBy wz (some bq)
  s0 : L 0 = true → u28 = .pointer (some ⟨DX, 3, none⟩)
  s1 : L 1 = true → u29 = .slice (some ⟨g, 0, none⟩) n d
  s2 : L 2 = true → u30 = .int .i64 (s : Int)
  s3 : L 3 = true → u31 = .pointer (some ⟨DX, 3, none⟩)
  s4 : L 4 = true → u32 = .slice (some ⟨g, 0, none⟩) n d
  s5 : L 5 = true → u33 = .int .i64 (s : Int)
  s6 : L 6 = true → u34 = .pointer (some ⟨g, s, none⟩)
  s7 : L 7 = true → u35 = .slice (some ⟨bq, 0, none⟩) m c2
  s8 : L 8 = true → u36 = .int .i64 (k : Int)
  s9 : L 9 = true → u37 = .int .i64 (k : Int)
  s10 : L 10 = true → u38 = .int .i64 ((k : Int) + 1)
  s11 : L 11 = true → u39 = .slice (some ⟨bq, 0, none⟩) (m - 1) c2 ∧ wz.ownsRow base 32 4 (.slice (some ⟨bq, 0, none⟩) (m - 1) c2) (m - 1) ((l.eraseIdx k).flatMap Ln.enc)
  s12 : L 12 = true → u40 = .pointer (some ⟨g, s, none⟩)
  d3 : wz.cell? ⟨DX, 3, none⟩ = some (.slice (some ⟨g, 0, none⟩) n d)
  h3 : wz.cell? ⟨g, s, none⟩ = some (.slice (some ⟨bq, 0, none⟩) m c2)
  fg : wz.frozen? ⟨g, s, none⟩ = false
  o0 : L 11 = false → wz.ownsRow base 32 4 (.slice (some ⟨bq, 0, none⟩) m c2) m (l.flatMap Ln.enc)
def DrRPhi (w0 : World) (base DX g bq n d m c2 s k : Nat) (l : List Ln) (L : Nat → Bool) (vs : List Value) (w' : World) : Prop :=
  ∃ u28 u29 u30 u31 u32 u33 u34 u35 u36 u37 u38 u39 u40 wz, vs = [u28, u29, u30, u31, u32, u33, u34, u35, u36, u37, u38, u39, u40] ∧ DrR w0 base DX g bq n d m c2 s k l L u28 u29 u30 u31 u32 u33 u34 u35 u36 u37 u38 u39 u40 wz ∧ w' = if L 13 = true then wz.setCell ⟨g, s, none⟩ (.slice (some ⟨bq, 0, none⟩) (m - 1) c2) else wz

set_option maxHeartbeats 16000000 in
set_option maxRecDepth 100000 in
theorem drop_any (A : Option Addr) (c n : Nat) (x : Ca) (hs : List Hd) (t : Int) (w : World) (hc : CIn w A x.lines hs) (hn : x.lines.length = n) (hn1 : n ≤ 1000000) (hb : ∀ s, s < n → x.lines[s]!.length ≤ 1000000) (hwf : WfC x) :
    Calls Try.prog 18 #[.agg #[.int .i64 x.sets, .int .i64 x.ways, .int .i64 x.clock, .slice A n c], .int .i64 t] w (GivesC w (dropC x t)) := by
  have b0 : Below w.heap.size w ((w.alloc (.cells #[.int .i64 x.sets, .int .i64 x.ways, .int .i64 x.clock, .slice A n c] 26)).alloc (.cells #[.int .i64 0, .int .i64 0, .int .i64 0, .slice none 0 0] 26)) := ((Below.refl _ _).alloc (Nat.le_refl _) _).alloc (by simp) _
  have X0 := (Bx.new w [.int .i64 x.sets, .int .i64 x.ways, .int .i64 x.clock, .slice A n c] 26).alloc (.cells #[.int .i64 0, .int .i64 0, .int .i64 0, .slice none 0 0] 26)
  have X1 := Bx.new (w.alloc (.cells #[.int .i64 x.sets, .int .i64 x.ways, .int .i64 x.clock, .slice A n c] 26)) [.int .i64 0, .int .i64 0, .int .i64 0, .slice none 0 0] 26
  rw [show (w.alloc (.cells #[.int .i64 x.sets, .int .i64 x.ways, .int .i64 x.clock, .slice A n c] 26)).heap.size = w.heap.size + 1 by simp] at X1
  have HC := Lib.hid (hc.below b0)
  have cD := fun w1 (h : CIn w1 A x.lines hs) => copied_any A c n x hs w1 h hn hn1 hb
  have cM := fun w1 (h : CIn w1 A x.lines hs) => right_any A c n x hs w1 h hn hwf
  have HN := Lib.hid hn
  have HBD := Lib.hid hb
  clear hc hwf hb
  have x0 := X0.cell 0 _ rfl
  have x1 := X0.cell 1 _ rfl
  have x2 := X0.cell 2 _ rfl
  have x3 := X0.cell 3 _ rfl
  go_enter Try.func18, Try.ntmps18
  go_wp2_with fail
  generalize (w.alloc (.cells #[.int .i64 x.sets, .int .i64 x.ways, .int .i64 x.clock, .slice A n c] 26)).alloc (.cells #[.int .i64 0, .int .i64 0, .int .i64 0, .slice none 0 0] 26) = W0 at *
  refine (cD _ HC.out).mono ?_
  rintro e w1 ⟨B, d, rfl, ⟨hs1, own1⟩, hb1⟩
  have hW1 := X1.lt
  have hltV : ∀ g, (Value.slice B n d).ownBlock = some g → g < w1.heap.size := fun g hg => (own1.outer.lt g hg).2
  have hltI : ∀ j, j < n → ∀ g, hs1[j]!.val.ownBlock = some g → g < w1.heap.size := fun j hj g hg => ((own1.inner j hj).2.lt g hg).2
  have b1 := b0.trans (hb1.mono b0.size)
  have HC1 := Lib.hid ((HC.out.below hb1).below ((Below.refl _ _).alloc (Nat.le_refl _) (.cells #[.int .i64 x.sets, .int .i64 x.ways, .int .i64 x.clock, .slice B n d] 26)))
  replace X0 := (X0.below hb1).alloc (.cells #[.int .i64 x.sets, .int .i64 x.ways, .int .i64 x.clock, .slice B n d] 26)
  replace X1 := (X1.below hb1).alloc (.cells #[.int .i64 x.sets, .int .i64 x.ways, .int .i64 x.clock, .slice B n d] 26)
  have D := Bx.new w1 [.int .i64 x.sets, .int .i64 x.ways, .int .i64 x.clock, .slice B n d] 26
  have own2 := own1.below ((Below.refl _ _).alloc (Nat.le_refl _) (.cells #[.int .i64 x.sets, .int .i64 x.ways, .int .i64 x.clock, .slice B n d] 26))
  have b2 := b1.alloc b1.size (.cells #[.int .i64 x.sets, .int .i64 x.ways, .int .i64 x.clock, .slice B n d] 26)
  have hD0 : W0.heap.size ≤ w1.heap.size := hb1.size
  have hW0 := b0.size
  clear cD hb1 own1 b1 b0 x0 x1 x2 x3
  have x0 := X0.cell 0 _ rfl
  have x1 := X0.cell 1 _ rfl
  have x2 := X0.cell 2 _ rfl
  have x3 := X0.cell 3 _ rfl
  go_wp2_with fail
  generalize w1.alloc (.cells #[.int .i64 x.sets, .int .i64 x.ways, .int .i64 x.clock, .slice B n d] 26) = W2 at *
  generalize w1.heap.size = DX at *
  refine (cM _ HC1.out).mono ?_
  rintro e w3 ⟨rfl, hb3⟩
  replace X1 := X1.below hb3
  replace D := D.below hb3
  have own3 := own2.below hb3
  have b3 := b2.trans (hb3.mono b2.size)
  clear cM hb3 own2 b2 x0 x1 x2 x3 X0
  have hXD : w.heap.size + 1 ≠ DX := by omega
  have d0 := D.cell 0 _ rfl
  have d1 := D.cell 1 _ rfl
  have d2 := D.cell 2 _ rfl
  have d3 := D.cell 3 _ rfl
  have z0 := X1.cell 0 _ rfl
  have z1 := X1.cell 1 _ rfl
  have z2 := X1.cell 2 _ rfl
  have z3 := X1.cell 3 _ rfl
  have f0 := X1.froz 0
  have f1 := X1.froz 1
  have f2 := X1.froz 2
  have f3 := X1.froz 3
  cases hr : rightC x with
  | false =>
    have hU : dropC x t = (x, 1) := by unfold dropC; rw [if_neg (by rw [hr]; rintro ⟨h, _⟩; cases h)]
    have HU := Lib.hid hU
    clear hU hr
    have OF := Lib.hid ((((own3.set (X := w.heap.size + 1) (by omega) 0 (.int .i64 x.sets)).set (X := w.heap.size + 1) (by omega) 1 (.int .i64 x.ways)).set (X := w.heap.size + 1) (by omega) 2 (.int .i64 x.clock)).set (X := w.heap.size + 1) (by omega) 3 (.slice B n d))
    have BF := Lib.hid ((((b3.setCell (p := ⟨w.heap.size + 1, 0, none⟩) (Nat.le_succ _) (.int .i64 x.sets)).setCell (p := ⟨w.heap.size + 1, 1, none⟩) (Nat.le_succ _) (.int .i64 x.ways)).setCell (p := ⟨w.heap.size + 1, 2, none⟩) (Nat.le_succ _) (.int .i64 x.clock)).setCell (p := ⟨w.heap.size + 1, 3, none⟩) (Nat.le_succ _) (.slice B n d))
    clear own3 b3
    go_wp2_with fail
    refine bodyPost_ret (v := .tuple #[.agg #[.int .i64 x.sets, .int .i64 x.ways, .int .i64 x.clock, .slice B n d], .int .i64 1]) (by simp [results, Try.results18, go_sem, z0, z1, z2, z3]) rfl ?_
    rw [HU.out]
    show GivesC w (x, 1) _ _
    unfold GivesC
    simp only [HN.out]
    exact ⟨B, d, rfl, ⟨hs1, OF.out.weaken hW0⟩, BF.out⟩
  | true =>
    by_cases ht : 0 ≤ t
    · have htz : decide (t < 0) = false := decide_eq_false (by omega)
      obtain ⟨s, hst, hsl, h0⟩ := set_of hr ht
      have hrf := right_facts hr
      have hsn : s < n := by rw [← HN.out]; exact hsl
      have cP := place_any B d n s x hs1 t w3 own3.cin HN.out hsn hst h0 hn1
      have hU : dropC x t = if idxA x.lines[s]! t < 0 then (x, 7) else (⟨x.sets, x.ways, x.clock, x.lines.set s (x.lines[s]!.eraseIdx (idxA x.lines[s]! t).toNat)⟩, 0) := by
        unfold dropC setOf
        rw [if_pos ⟨hr, ht⟩, hst, Int.toNat_natCast]
      clear hr hst h0 hrf
      rcases idxA_cases x.lines[s]! t with ⟨hi, hno⟩ | ⟨k, hk, hi, hka, hno⟩
      · rw [hi] at cP hU
        rw [if_pos (by omega)] at hU
        have HU := Lib.hid hU
        clear hU hi hno hsl
        go_wp2_with fail
        refine cP.mono ?_
        rintro e w4 ⟨rfl, hb4⟩
        replace X1 := X1.below hb4
        replace D := D.below hb4
        have own4 := own3.below hb4
        have b4 := b3.trans (hb4.mono b3.size)
        clear cP hb4 own3 b3 d0 d1 d2 d3 z0 z1 z2 z3 f0 f1 f2 f3
        have d0 := D.cell 0 _ rfl
        have d1 := D.cell 1 _ rfl
        have d2 := D.cell 2 _ rfl
        have d3 := D.cell 3 _ rfl
        have z0 := X1.cell 0 _ rfl
        have z1 := X1.cell 1 _ rfl
        have z2 := X1.cell 2 _ rfl
        have z3 := X1.cell 3 _ rfl
        have f0 := X1.froz 0
        have f1 := X1.froz 1
        have f2 := X1.froz 2
        have f3 := X1.froz 3
        have OF := Lib.hid ((((own4.set (X := w.heap.size + 1) (by omega) 0 (.int .i64 x.sets)).set (X := w.heap.size + 1) (by omega) 1 (.int .i64 x.ways)).set (X := w.heap.size + 1) (by omega) 2 (.int .i64 x.clock)).set (X := w.heap.size + 1) (by omega) 3 (.slice B n d))
        have BF := Lib.hid ((((b4.setCell (p := ⟨w.heap.size + 1, 0, none⟩) (Nat.le_succ _) (.int .i64 x.sets)).setCell (p := ⟨w.heap.size + 1, 1, none⟩) (Nat.le_succ _) (.int .i64 x.ways)).setCell (p := ⟨w.heap.size + 1, 2, none⟩) (Nat.le_succ _) (.int .i64 x.clock)).setCell (p := ⟨w.heap.size + 1, 3, none⟩) (Nat.le_succ _) (.slice B n d))
        clear own4 b4
        go_wp2_with fail
        refine bodyPost_ret (v := .tuple #[.agg #[.int .i64 x.sets, .int .i64 x.ways, .int .i64 x.clock, .slice B n d], .int .i64 7]) (by simp [results, Try.results18, go_sem, z0, z1, z2, z3]) rfl ?_
        rw [HU.out]
        show GivesC w (x, 7) _ _
        unfold GivesC
        simp only [HN.out]
        exact ⟨B, d, rfl, ⟨hs1, OF.out.weaken hW0⟩, BF.out⟩
      · rw [hi] at cP hU
        rw [if_neg (by omega), Int.toNat_natCast] at hU
        have HU := Lib.hid hU
        have HK := Lib.hid hk
        clear hU hi hka hno hsl hk
        go_wp2_with fail
        refine cP.mono ?_
        rintro e w4 ⟨rfl, hb4⟩
        replace X1 := X1.below hb4
        replace D := D.below hb4
        have own4 := own3.below hb4
        have b4 := b3.trans (hb4.mono b3.size)
        clear cP hb4 own3 b3 d0 d1 d2 d3 z0 z1 z2 z3 f0 f1 f2 f3
        obtain ⟨b, m, c2, he, hm, hmc, hbb, hbl, orow⟩ := own4.at_ hsn (by have := HK.out; omega)
        obtain ⟨g, d', eB⟩ := own_slice own4.outer (by omega)
        obtain ⟨rfl, rfl⟩ : B = some ⟨g, 0, none⟩ ∧ d = d' := by simpa using eB
        have hcell : w4.cell? ⟨g, s, none⟩ = some (.slice (some ⟨b, 0, none⟩) m c2) := own_cell own4.outer s _ (by have := flat_at Hd.enc_len hs1 s 0 (.slice (some ⟨b, 0, none⟩) m c2) (by rw [own4.len]; exact hsn) (by rw [he]; rfl); simpa using this)
        have hfg : w4.frozen? ⟨g, s, none⟩ = false := own_frozen own4.outer s
        have hgb : g ≠ b := fun e => by
          subst e
          rcases own_two own4.outer orow (by decide) with h | h
          · cases h
          · exact h rfl
        have hbD : b < DX := hltI s hsn b (by rw [he]; rfl)
        have hgD : g < DX := hltV g rfl
        have hkm : k < m := by have := HK.out; omega
        have hsz : (s : Int) < (n : Int) := by omega
        have hm8 : m ≤ 1000000 := by rw [← hm]; exact HBD.out s hsn
        have d3 := D.cell 3 _ rfl
        have HM := Lib.hid hm
        have HE := Lib.hid he
        obtain ⟨l, hl⟩ : ∃ l, l = x.lines[s]! := ⟨_, rfl⟩
        have HL := Lib.hid hl
        rw [← hl] at orow HM
        have hbl4 : b < w4.heap.size := hbl
        have hD4 := D.lt
        have orow2 : w4.drew.ownsRow W0.heap.size 32 4 (.slice (some ⟨b, 0, none⟩) m c2) m (l.flatMap Ln.enc) := orow
        have hgW : W0.heap.size ≤ g := (own4.outer.lt g rfl).1
        clear hm he eB hbl orow hl
        go_wp2_with fail
        refine wp_region_rg (by kernel_rfl) (by kernel_rfl) [28, 29, 30, 31, 32, 33, 34, 35, 36, 37, 38, 39, 40] (DrRPhi w4.drew W0.heap.size DX g b n d m c2 s k l) ?h0 ⟨?q0, ?q1, ?q2, ?q3, ?q4, ?q5, ?q6, ?q7, ?q8, ?q9, ?q10, ?q11, ?q12, ?q13, trivial⟩ ?hend
        case h0 => exact ⟨_, _, _, _, _, _, _, _, _, _, _, _, _, _, rfl, ⟨World.grownBy.refl _ _, (fun h => by cases h), (fun h => by cases h), (fun h => by cases h), (fun h => by cases h), (fun h => by cases h), (fun h => by cases h), (fun h => by cases h), (fun h => by cases h), (fun h => by cases h), (fun h => by cases h), (fun h => by cases h), (fun h => by cases h), (fun h => by cases h), (d3), (hcell), (hfg), (fun _ => orow2)⟩, rfl⟩
        case q0 =>
          rintro L vs w' K ⟨u28, u29, u30, u31, u32, u33, u34, u35, u36, u37, u38, u39, u40, wz, rfl, φ, rfl⟩ hL hpre hcl hK G hG
          simp [Region.binds, closedFrom] at hpre hcl
          have hst : L 13 = false := by
            cases h : L 13 with
            | false => rfl
            | true => simp [h, hL] at hcl
          simp only [hst, Bool.false_eq_true, if_false] at hK hG
          have hk := hK [(.pointer (some ⟨DX, 3, none⟩)), u29, u30, u31, u32, u33, u34, u35, u36, u37, u38, u39, u40] wz ⟨_, _, _, _, _, _, _, _, _, _, _, _, _, wz, rfl,
            { b := φ.b,
              s0 := fun _ => rfl,
              s1 := fun h0 => φ.s1 (by simpa using h0),
              s2 := fun h0 => φ.s2 (by simpa using h0),
              s3 := fun h0 => φ.s3 (by simpa using h0),
              s4 := fun h0 => φ.s4 (by simpa using h0),
              s5 := fun h0 => φ.s5 (by simpa using h0),
              s6 := fun h0 => φ.s6 (by simpa using h0),
              s7 := fun h0 => φ.s7 (by simpa using h0),
              s8 := fun h0 => φ.s8 (by simpa using h0),
              s9 := fun h0 => φ.s9 (by simpa using h0),
              s10 := fun h0 => φ.s10 (by simpa using h0),
              s11 := fun h0 => φ.s11 (by simpa using h0),
              s12 := fun h0 => φ.s12 (by simpa using h0),
              d3 := φ.d3,
              h3 := φ.h3,
              fg := φ.fg,
              o0 := fun h0 => φ.o0 (by simpa using h0) }, by simp [hst]⟩
          refine hG ?_
          clear hK φ hG
          revert hk
          go_simp
          first | done | exact fun h => h
        case q1 =>
          rintro L vs w' K ⟨u28, u29, u30, u31, u32, u33, u34, u35, u36, u37, u38, u39, u40, wz, rfl, φ, rfl⟩ hL hpre hcl hK G hG
          simp [Region.binds, closedFrom] at hpre hcl
          have hst : L 13 = false := by
            cases h : L 13 with
            | false => rfl
            | true => simp [h, hL] at hcl
          simp only [hst, Bool.false_eq_true, if_false] at hK hG
          have e0 := φ.s0 (by simp [hpre])
          subst e0
          have c3 := φ.d3
          have hk := hK [(.pointer (some ⟨DX, 3, none⟩)), (.slice (some ⟨g, 0, none⟩) n d), u30, u31, u32, u33, u34, u35, u36, u37, u38, u39, u40] wz ⟨_, _, _, _, _, _, _, _, _, _, _, _, _, wz, rfl,
            { b := φ.b,
              s0 := fun h0 => φ.s0 (by simpa using h0),
              s1 := fun _ => rfl,
              s2 := fun h0 => φ.s2 (by simpa using h0),
              s3 := fun h0 => φ.s3 (by simpa using h0),
              s4 := fun h0 => φ.s4 (by simpa using h0),
              s5 := fun h0 => φ.s5 (by simpa using h0),
              s6 := fun h0 => φ.s6 (by simpa using h0),
              s7 := fun h0 => φ.s7 (by simpa using h0),
              s8 := fun h0 => φ.s8 (by simpa using h0),
              s9 := fun h0 => φ.s9 (by simpa using h0),
              s10 := fun h0 => φ.s10 (by simpa using h0),
              s11 := fun h0 => φ.s11 (by simpa using h0),
              s12 := fun h0 => φ.s12 (by simpa using h0),
              d3 := φ.d3,
              h3 := φ.h3,
              fg := φ.fg,
              o0 := fun h0 => φ.o0 (by simpa using h0) }, by simp [hst]⟩
          refine hG ?_
          clear hK φ hG
          revert hk
          go_simp
          first | done | exact fun h => h
        case q2 =>
          rintro L vs w' K ⟨u28, u29, u30, u31, u32, u33, u34, u35, u36, u37, u38, u39, u40, wz, rfl, φ, rfl⟩ hL hpre hcl hK G hG
          simp [Region.binds, closedFrom] at hpre hcl
          have hst : L 13 = false := by
            cases h : L 13 with
            | false => rfl
            | true => simp [h, hL] at hcl
          simp only [hst, Bool.false_eq_true, if_false] at hK hG
          have hk := hK [u28, u29, (.int .i64 (s : Int)), u31, u32, u33, u34, u35, u36, u37, u38, u39, u40] wz ⟨_, _, _, _, _, _, _, _, _, _, _, _, _, wz, rfl,
            { b := φ.b,
              s0 := fun h0 => φ.s0 (by simpa using h0),
              s1 := fun h0 => φ.s1 (by simpa using h0),
              s2 := fun _ => rfl,
              s3 := fun h0 => φ.s3 (by simpa using h0),
              s4 := fun h0 => φ.s4 (by simpa using h0),
              s5 := fun h0 => φ.s5 (by simpa using h0),
              s6 := fun h0 => φ.s6 (by simpa using h0),
              s7 := fun h0 => φ.s7 (by simpa using h0),
              s8 := fun h0 => φ.s8 (by simpa using h0),
              s9 := fun h0 => φ.s9 (by simpa using h0),
              s10 := fun h0 => φ.s10 (by simpa using h0),
              s11 := fun h0 => φ.s11 (by simpa using h0),
              s12 := fun h0 => φ.s12 (by simpa using h0),
              d3 := φ.d3,
              h3 := φ.h3,
              fg := φ.fg,
              o0 := fun h0 => φ.o0 (by simpa using h0) }, by simp [hst]⟩
          refine hG ?_
          clear hK φ hG
          revert hk
          go_simp
          first | done | exact fun h => h
        case q3 =>
          rintro L vs w' K ⟨u28, u29, u30, u31, u32, u33, u34, u35, u36, u37, u38, u39, u40, wz, rfl, φ, rfl⟩ hL hpre hcl hK G hG
          simp [Region.binds, closedFrom] at hpre hcl
          have hst : L 13 = false := by
            cases h : L 13 with
            | false => rfl
            | true => simp [h, hL] at hcl
          simp only [hst, Bool.false_eq_true, if_false] at hK hG
          have hk := hK [u28, u29, u30, (.pointer (some ⟨DX, 3, none⟩)), u32, u33, u34, u35, u36, u37, u38, u39, u40] wz ⟨_, _, _, _, _, _, _, _, _, _, _, _, _, wz, rfl,
            { b := φ.b,
              s0 := fun h0 => φ.s0 (by simpa using h0),
              s1 := fun h0 => φ.s1 (by simpa using h0),
              s2 := fun h0 => φ.s2 (by simpa using h0),
              s3 := fun _ => rfl,
              s4 := fun h0 => φ.s4 (by simpa using h0),
              s5 := fun h0 => φ.s5 (by simpa using h0),
              s6 := fun h0 => φ.s6 (by simpa using h0),
              s7 := fun h0 => φ.s7 (by simpa using h0),
              s8 := fun h0 => φ.s8 (by simpa using h0),
              s9 := fun h0 => φ.s9 (by simpa using h0),
              s10 := fun h0 => φ.s10 (by simpa using h0),
              s11 := fun h0 => φ.s11 (by simpa using h0),
              s12 := fun h0 => φ.s12 (by simpa using h0),
              d3 := φ.d3,
              h3 := φ.h3,
              fg := φ.fg,
              o0 := fun h0 => φ.o0 (by simpa using h0) }, by simp [hst]⟩
          refine hG ?_
          clear hK φ hG
          revert hk
          go_simp
          first | done | exact fun h => h
        case q4 =>
          rintro L vs w' K ⟨u28, u29, u30, u31, u32, u33, u34, u35, u36, u37, u38, u39, u40, wz, rfl, φ, rfl⟩ hL hpre hcl hK G hG
          simp [Region.binds, closedFrom] at hpre hcl
          have hst : L 13 = false := by
            cases h : L 13 with
            | false => rfl
            | true => simp [h, hL] at hcl
          simp only [hst, Bool.false_eq_true, if_false] at hK hG
          have e3 := φ.s3 (by simp [hpre])
          subst e3
          have c3 := φ.d3
          have hk := hK [u28, u29, u30, (.pointer (some ⟨DX, 3, none⟩)), (.slice (some ⟨g, 0, none⟩) n d), u33, u34, u35, u36, u37, u38, u39, u40] wz ⟨_, _, _, _, _, _, _, _, _, _, _, _, _, wz, rfl,
            { b := φ.b,
              s0 := fun h0 => φ.s0 (by simpa using h0),
              s1 := fun h0 => φ.s1 (by simpa using h0),
              s2 := fun h0 => φ.s2 (by simpa using h0),
              s3 := fun h0 => φ.s3 (by simpa using h0),
              s4 := fun _ => rfl,
              s5 := fun h0 => φ.s5 (by simpa using h0),
              s6 := fun h0 => φ.s6 (by simpa using h0),
              s7 := fun h0 => φ.s7 (by simpa using h0),
              s8 := fun h0 => φ.s8 (by simpa using h0),
              s9 := fun h0 => φ.s9 (by simpa using h0),
              s10 := fun h0 => φ.s10 (by simpa using h0),
              s11 := fun h0 => φ.s11 (by simpa using h0),
              s12 := fun h0 => φ.s12 (by simpa using h0),
              d3 := φ.d3,
              h3 := φ.h3,
              fg := φ.fg,
              o0 := fun h0 => φ.o0 (by simpa using h0) }, by simp [hst]⟩
          refine hG ?_
          clear hK φ hG
          revert hk
          go_simp
          first | done | exact fun h => h
        case q5 =>
          rintro L vs w' K ⟨u28, u29, u30, u31, u32, u33, u34, u35, u36, u37, u38, u39, u40, wz, rfl, φ, rfl⟩ hL hpre hcl hK G hG
          simp [Region.binds, closedFrom] at hpre hcl
          have hst : L 13 = false := by
            cases h : L 13 with
            | false => rfl
            | true => simp [h, hL] at hcl
          simp only [hst, Bool.false_eq_true, if_false] at hK hG
          have hk := hK [u28, u29, u30, u31, u32, (.int .i64 (s : Int)), u34, u35, u36, u37, u38, u39, u40] wz ⟨_, _, _, _, _, _, _, _, _, _, _, _, _, wz, rfl,
            { b := φ.b,
              s0 := fun h0 => φ.s0 (by simpa using h0),
              s1 := fun h0 => φ.s1 (by simpa using h0),
              s2 := fun h0 => φ.s2 (by simpa using h0),
              s3 := fun h0 => φ.s3 (by simpa using h0),
              s4 := fun h0 => φ.s4 (by simpa using h0),
              s5 := fun _ => rfl,
              s6 := fun h0 => φ.s6 (by simpa using h0),
              s7 := fun h0 => φ.s7 (by simpa using h0),
              s8 := fun h0 => φ.s8 (by simpa using h0),
              s9 := fun h0 => φ.s9 (by simpa using h0),
              s10 := fun h0 => φ.s10 (by simpa using h0),
              s11 := fun h0 => φ.s11 (by simpa using h0),
              s12 := fun h0 => φ.s12 (by simpa using h0),
              d3 := φ.d3,
              h3 := φ.h3,
              fg := φ.fg,
              o0 := fun h0 => φ.o0 (by simpa using h0) }, by simp [hst]⟩
          refine hG ?_
          clear hK φ hG
          revert hk
          go_simp
          first | done | exact fun h => h
        case q6 =>
          rintro L vs w' K ⟨u28, u29, u30, u31, u32, u33, u34, u35, u36, u37, u38, u39, u40, wz, rfl, φ, rfl⟩ hL hpre hcl hK G hG
          simp [Region.binds, closedFrom] at hpre hcl
          have hst : L 13 = false := by
            cases h : L 13 with
            | false => rfl
            | true => simp [h, hL] at hcl
          simp only [hst, Bool.false_eq_true, if_false] at hK hG
          have e4 := φ.s4 (by simp [hpre])
          subst e4
          have e5 := φ.s5 (by simp [hpre])
          subst e5
          have hk := hK [u28, u29, u30, u31, (.slice (some ⟨g, 0, none⟩) n d), (.int .i64 (s : Int)), (.pointer (some ⟨g, s, none⟩)), u35, u36, u37, u38, u39, u40] wz ⟨_, _, _, _, _, _, _, _, _, _, _, _, _, wz, rfl,
            { b := φ.b,
              s0 := fun h0 => φ.s0 (by simpa using h0),
              s1 := fun h0 => φ.s1 (by simpa using h0),
              s2 := fun h0 => φ.s2 (by simpa using h0),
              s3 := fun h0 => φ.s3 (by simpa using h0),
              s4 := fun h0 => φ.s4 (by simpa using h0),
              s5 := fun h0 => φ.s5 (by simpa using h0),
              s6 := fun _ => rfl,
              s7 := fun h0 => φ.s7 (by simpa using h0),
              s8 := fun h0 => φ.s8 (by simpa using h0),
              s9 := fun h0 => φ.s9 (by simpa using h0),
              s10 := fun h0 => φ.s10 (by simpa using h0),
              s11 := fun h0 => φ.s11 (by simpa using h0),
              s12 := fun h0 => φ.s12 (by simpa using h0),
              d3 := φ.d3,
              h3 := φ.h3,
              fg := φ.fg,
              o0 := fun h0 => φ.o0 (by simpa using h0) }, by simp [hst]⟩
          refine hG ?_
          clear hK φ hG
          revert hk
          go_simp
          first | done | exact fun h => h
        case q7 =>
          rintro L vs w' K ⟨u28, u29, u30, u31, u32, u33, u34, u35, u36, u37, u38, u39, u40, wz, rfl, φ, rfl⟩ hL hpre hcl hK G hG
          simp [Region.binds, closedFrom] at hpre hcl
          have hst : L 13 = false := by
            cases h : L 13 with
            | false => rfl
            | true => simp [h, hL] at hcl
          simp only [hst, Bool.false_eq_true, if_false] at hK hG
          have e6 := φ.s6 (by simp [hpre])
          subst e6
          have c3 := φ.h3
          have hk := hK [u28, u29, u30, u31, u32, u33, (.pointer (some ⟨g, s, none⟩)), (.slice (some ⟨b, 0, none⟩) m c2), u36, u37, u38, u39, u40] wz ⟨_, _, _, _, _, _, _, _, _, _, _, _, _, wz, rfl,
            { b := φ.b,
              s0 := fun h0 => φ.s0 (by simpa using h0),
              s1 := fun h0 => φ.s1 (by simpa using h0),
              s2 := fun h0 => φ.s2 (by simpa using h0),
              s3 := fun h0 => φ.s3 (by simpa using h0),
              s4 := fun h0 => φ.s4 (by simpa using h0),
              s5 := fun h0 => φ.s5 (by simpa using h0),
              s6 := fun h0 => φ.s6 (by simpa using h0),
              s7 := fun _ => rfl,
              s8 := fun h0 => φ.s8 (by simpa using h0),
              s9 := fun h0 => φ.s9 (by simpa using h0),
              s10 := fun h0 => φ.s10 (by simpa using h0),
              s11 := fun h0 => φ.s11 (by simpa using h0),
              s12 := fun h0 => φ.s12 (by simpa using h0),
              d3 := φ.d3,
              h3 := φ.h3,
              fg := φ.fg,
              o0 := fun h0 => φ.o0 (by simpa using h0) }, by simp [hst]⟩
          refine hG ?_
          clear hK φ hG
          revert hk
          go_simp
          first | done | exact fun h => h
        case q8 =>
          rintro L vs w' K ⟨u28, u29, u30, u31, u32, u33, u34, u35, u36, u37, u38, u39, u40, wz, rfl, φ, rfl⟩ hL hpre hcl hK G hG
          simp [Region.binds, closedFrom] at hpre hcl
          have hst : L 13 = false := by
            cases h : L 13 with
            | false => rfl
            | true => simp [h, hL] at hcl
          simp only [hst, Bool.false_eq_true, if_false] at hK hG
          have hk := hK [u28, u29, u30, u31, u32, u33, u34, u35, (.int .i64 (k : Int)), u37, u38, u39, u40] wz ⟨_, _, _, _, _, _, _, _, _, _, _, _, _, wz, rfl,
            { b := φ.b,
              s0 := fun h0 => φ.s0 (by simpa using h0),
              s1 := fun h0 => φ.s1 (by simpa using h0),
              s2 := fun h0 => φ.s2 (by simpa using h0),
              s3 := fun h0 => φ.s3 (by simpa using h0),
              s4 := fun h0 => φ.s4 (by simpa using h0),
              s5 := fun h0 => φ.s5 (by simpa using h0),
              s6 := fun h0 => φ.s6 (by simpa using h0),
              s7 := fun h0 => φ.s7 (by simpa using h0),
              s8 := fun _ => rfl,
              s9 := fun h0 => φ.s9 (by simpa using h0),
              s10 := fun h0 => φ.s10 (by simpa using h0),
              s11 := fun h0 => φ.s11 (by simpa using h0),
              s12 := fun h0 => φ.s12 (by simpa using h0),
              d3 := φ.d3,
              h3 := φ.h3,
              fg := φ.fg,
              o0 := fun h0 => φ.o0 (by simpa using h0) }, by simp [hst]⟩
          refine hG ?_
          clear hK φ hG
          revert hk
          go_simp
          first | done | exact fun h => h
        case q9 =>
          rintro L vs w' K ⟨u28, u29, u30, u31, u32, u33, u34, u35, u36, u37, u38, u39, u40, wz, rfl, φ, rfl⟩ hL hpre hcl hK G hG
          simp [Region.binds, closedFrom] at hpre hcl
          have hst : L 13 = false := by
            cases h : L 13 with
            | false => rfl
            | true => simp [h, hL] at hcl
          simp only [hst, Bool.false_eq_true, if_false] at hK hG
          have hk := hK [u28, u29, u30, u31, u32, u33, u34, u35, u36, (.int .i64 (k : Int)), u38, u39, u40] wz ⟨_, _, _, _, _, _, _, _, _, _, _, _, _, wz, rfl,
            { b := φ.b,
              s0 := fun h0 => φ.s0 (by simpa using h0),
              s1 := fun h0 => φ.s1 (by simpa using h0),
              s2 := fun h0 => φ.s2 (by simpa using h0),
              s3 := fun h0 => φ.s3 (by simpa using h0),
              s4 := fun h0 => φ.s4 (by simpa using h0),
              s5 := fun h0 => φ.s5 (by simpa using h0),
              s6 := fun h0 => φ.s6 (by simpa using h0),
              s7 := fun h0 => φ.s7 (by simpa using h0),
              s8 := fun h0 => φ.s8 (by simpa using h0),
              s9 := fun _ => rfl,
              s10 := fun h0 => φ.s10 (by simpa using h0),
              s11 := fun h0 => φ.s11 (by simpa using h0),
              s12 := fun h0 => φ.s12 (by simpa using h0),
              d3 := φ.d3,
              h3 := φ.h3,
              fg := φ.fg,
              o0 := fun h0 => φ.o0 (by simpa using h0) }, by simp [hst]⟩
          refine hG ?_
          clear hK φ hG
          revert hk
          go_simp
          first | done | exact fun h => h
        case q10 =>
          rintro L vs w' K ⟨u28, u29, u30, u31, u32, u33, u34, u35, u36, u37, u38, u39, u40, wz, rfl, φ, rfl⟩ hL hpre hcl hK G hG
          simp [Region.binds, closedFrom] at hpre hcl
          have hst : L 13 = false := by
            cases h : L 13 with
            | false => rfl
            | true => simp [h, hL] at hcl
          simp only [hst, Bool.false_eq_true, if_false] at hK hG
          have e9 := φ.s9 (by simp [hpre])
          subst e9
          have hwr : IntKind.i64.wrap ((k : Int) + 1) = (k : Int) + 1 := IntWalk.i64_in _ (by omega)
          have hk := hK [u28, u29, u30, u31, u32, u33, u34, u35, u36, (.int .i64 (k : Int)), (.int .i64 ((k : Int) + 1)), u39, u40] wz ⟨_, _, _, _, _, _, _, _, _, _, _, _, _, wz, rfl,
            { b := φ.b,
              s0 := fun h0 => φ.s0 (by simpa using h0),
              s1 := fun h0 => φ.s1 (by simpa using h0),
              s2 := fun h0 => φ.s2 (by simpa using h0),
              s3 := fun h0 => φ.s3 (by simpa using h0),
              s4 := fun h0 => φ.s4 (by simpa using h0),
              s5 := fun h0 => φ.s5 (by simpa using h0),
              s6 := fun h0 => φ.s6 (by simpa using h0),
              s7 := fun h0 => φ.s7 (by simpa using h0),
              s8 := fun h0 => φ.s8 (by simpa using h0),
              s9 := fun h0 => φ.s9 (by simpa using h0),
              s10 := fun _ => rfl,
              s11 := fun h0 => φ.s11 (by simpa using h0),
              s12 := fun h0 => φ.s12 (by simpa using h0),
              d3 := φ.d3,
              h3 := φ.h3,
              fg := φ.fg,
              o0 := fun h0 => φ.o0 (by simpa using h0) }, by simp [hst]⟩
          refine hG ?_
          clear hK φ hG
          revert hk
          go_simp
          first | done | exact fun h => h
        case q11 =>
          rintro L vs w' K ⟨u28, u29, u30, u31, u32, u33, u34, u35, u36, u37, u38, u39, u40, wz, rfl, φ, rfl⟩ hL hpre hcl hK G hG
          simp [Region.binds, closedFrom] at hpre hcl
          have hst : L 13 = false := by
            cases h : L 13 with
            | false => rfl
            | true => simp [h, hL] at hcl
          simp only [hst, Bool.false_eq_true, if_false] at hK hG
          have e7 := φ.s7 (by simp [hpre])
          subst e7
          have e8 := φ.s8 (by simp [hpre])
          subst e8
          have e10 := φ.s10 (by simp [hpre])
          subst e10
          refine hG (step_call wz rfl 37 #[.tmp 35, .tmp 36, .tmp 38] #[40, 3, 3] rfl #[.slice (some ⟨b, 0, none⟩) m c2, .int .i64 (k : Int), .int .i64 ((k : Int) + 1)] (by simp [Act.eval, Act.puts, Act.put]) (enters_of Try.func37 (by kernel_rfl) rfl) (delete_any b _ m c2 k l wz (φ.o0 hL) HM.out hkm hm8) ?_)
          rintro e w9 ⟨rfl, own9, hg9⟩
          refine ⟨_, rfl, ?_⟩
          have hk := hK [u28, u29, u30, u31, u32, u33, u34, (.slice (some ⟨b, 0, none⟩) m c2), (.int .i64 (k : Int)), u37, (.int .i64 ((k : Int) + 1)), (.slice (some ⟨b, 0, none⟩) (m - 1) c2), u40] w9 ⟨_, _, _, _, _, _, _, _, _, _, _, _, _, w9, rfl,
            { b := φ.b.trans hg9,
              s0 := fun h0 => φ.s0 (by simpa using h0),
              s1 := fun h0 => φ.s1 (by simpa using h0),
              s2 := fun h0 => φ.s2 (by simpa using h0),
              s3 := fun h0 => φ.s3 (by simpa using h0),
              s4 := fun h0 => φ.s4 (by simpa using h0),
              s5 := fun h0 => φ.s5 (by simpa using h0),
              s6 := fun h0 => φ.s6 (by simpa using h0),
              s7 := fun h0 => φ.s7 (by simpa using h0),
              s8 := fun h0 => φ.s8 (by simpa using h0),
              s9 := fun h0 => φ.s9 (by simpa using h0),
              s10 := fun h0 => φ.s10 (by simpa using h0),
              s11 := fun _ => ⟨rfl, own9⟩,
              s12 := fun h0 => φ.s12 (by simpa using h0),
              d3 := hg9.cell φ.d3 (by simp; omega),
              h3 := hg9.cell φ.h3 (by simp; omega),
              fg := (frozen_of_block (hg9.block g (World.block_lt_of_cell? _ _ φ.h3) (by simp; omega))).trans φ.fg,
              o0 := fun h => by simp at h }, by simp [hst]⟩
          clear hK φ hG
          revert hk
          go_simp
          first | done | exact fun h => h
        case q12 =>
          rintro L vs w' K ⟨u28, u29, u30, u31, u32, u33, u34, u35, u36, u37, u38, u39, u40, wz, rfl, φ, rfl⟩ hL hpre hcl hK G hG
          simp [Region.binds, closedFrom] at hpre hcl
          have hst : L 13 = false := by
            cases h : L 13 with
            | false => rfl
            | true => simp [h, hL] at hcl
          simp only [hst, Bool.false_eq_true, if_false] at hK hG
          have e1 := φ.s1 (by simp [hpre])
          subst e1
          have e2 := φ.s2 (by simp [hpre])
          subst e2
          have hk := hK [u28, (.slice (some ⟨g, 0, none⟩) n d), (.int .i64 (s : Int)), u31, u32, u33, u34, u35, u36, u37, u38, u39, (.pointer (some ⟨g, s, none⟩))] wz ⟨_, _, _, _, _, _, _, _, _, _, _, _, _, wz, rfl,
            { b := φ.b,
              s0 := fun h0 => φ.s0 (by simpa using h0),
              s1 := fun h0 => φ.s1 (by simpa using h0),
              s2 := fun h0 => φ.s2 (by simpa using h0),
              s3 := fun h0 => φ.s3 (by simpa using h0),
              s4 := fun h0 => φ.s4 (by simpa using h0),
              s5 := fun h0 => φ.s5 (by simpa using h0),
              s6 := fun h0 => φ.s6 (by simpa using h0),
              s7 := fun h0 => φ.s7 (by simpa using h0),
              s8 := fun h0 => φ.s8 (by simpa using h0),
              s9 := fun h0 => φ.s9 (by simpa using h0),
              s10 := fun h0 => φ.s10 (by simpa using h0),
              s11 := fun h0 => φ.s11 (by simpa using h0),
              s12 := fun _ => rfl,
              d3 := φ.d3,
              h3 := φ.h3,
              fg := φ.fg,
              o0 := fun h0 => φ.o0 (by simpa using h0) }, by simp [hst]⟩
          refine hG ?_
          clear hK φ hG
          revert hk
          go_simp
          first | done | exact fun h => h
        case q13 =>
          rintro L vs w' K ⟨u28, u29, u30, u31, u32, u33, u34, u35, u36, u37, u38, u39, u40, wz, rfl, φ, rfl⟩ hL hpre hcl hK G hG
          simp [Region.binds, closedFrom] at hpre hcl
          simp only [hL, Bool.false_eq_true, if_false] at hK hG
          obtain ⟨e11, o11⟩ := φ.s11 (by simp [hpre])
          subst e11
          have e12 := φ.s12 (by simp [hpre])
          subst e12
          have ch := φ.h3
          have cf := φ.fg
          have hk := hK [u28, u29, u30, u31, u32, u33, u34, u35, u36, u37, u38, (.slice (some ⟨b, 0, none⟩) (m - 1) c2), (.pointer (some ⟨g, s, none⟩))] _ ⟨_, _, _, _, _, _, _, _, _, _, _, _, _, wz, rfl,
            { b := φ.b,
              s0 := fun h0 => φ.s0 (by simpa using h0),
              s1 := fun h0 => φ.s1 (by simpa using h0),
              s2 := fun h0 => φ.s2 (by simpa using h0),
              s3 := fun h0 => φ.s3 (by simpa using h0),
              s4 := fun h0 => φ.s4 (by simpa using h0),
              s5 := fun h0 => φ.s5 (by simpa using h0),
              s6 := fun h0 => φ.s6 (by simpa using h0),
              s7 := fun h0 => φ.s7 (by simpa using h0),
              s8 := fun h0 => φ.s8 (by simpa using h0),
              s9 := fun h0 => φ.s9 (by simpa using h0),
              s10 := fun h0 => φ.s10 (by simpa using h0),
              s11 := fun h0 => φ.s11 (by simpa using h0),
              s12 := fun h0 => φ.s12 (by simpa using h0),
              d3 := φ.d3,
              h3 := φ.h3,
              fg := φ.fg,
              o0 := fun h0 => φ.o0 (by simpa using h0) }, rfl⟩
          refine hG ?_
          clear hK φ hG
          revert hk
          go_simp
          first | done | exact fun h => h
        case hend =>
          rintro vs w' ⟨u28, u29, u30, u31, u32, u33, u34, u35, u36, u37, u38, u39, u40, wz, rfl, φ, rfl⟩ G hG
          obtain ⟨e11, o11⟩ := φ.s11 rfl
          have g9 := φ.b
          clear φ
          refine hG ?_
          clear hG
          have G4 : w4.grownBy wz (some b) := World.grownBy.trans (b := w4.drew) ⟨rfl, rfl, rfl, Nat.le_refl _, fun _ _ _ => rfl⟩ g9
          have hle : (l.eraseIdx k).length = m - 1 := by rw [List.length_eraseIdx, if_pos (by rw [HM.out]; exact hkm), HM.out]
          have own5 := own4.swap (m := m - 1) (c := c2) (B := some ⟨b, 0, none⟩) (l := l.eraseIdx k) hsn (by rw [HE.out]; exact G4) o11 hle (.inl (by rw [HE.out]; rfl))
          rw [HL.out] at own5
          have D5 := (D.grown G4 (by omega)).far (Y := g) (by omega) s (.slice (some ⟨b, 0, none⟩) (m - 1) c2)
          have X5 := (X1.grown G4 (by omega)).far (Y := g) (by omega) s (.slice (some ⟨b, 0, none⟩) (m - 1) c2)
          have B5 := (b4.grown G4 (by omega) (fun k hk => by injection hk with hk; omega)).setCell (p := ⟨g, s, none⟩) (by show w.heap.size ≤ g; omega) (.slice (some ⟨b, 0, none⟩) (m - 1) c2)
          clear g9 G4 o11 hcell hfg d3 D X1 own4 b4 orow2 e11 hD4
          generalize wz.setCell ⟨g, s, none⟩ (.slice (some ⟨b, 0, none⟩) (m - 1) c2) = w5 at *
          have D := D5
          have X1 := X5
          clear D5 X5
          simp only [decide_eq_true_eq]
          have d0 := D.cell 0 _ rfl
          have d1 := D.cell 1 _ rfl
          have d2 := D.cell 2 _ rfl
          have d3 := D.cell 3 _ rfl
          have z0 := X1.cell 0 _ rfl
          have z1 := X1.cell 1 _ rfl
          have z2 := X1.cell 2 _ rfl
          have z3 := X1.cell 3 _ rfl
          have f0 := X1.froz 0
          have f1 := X1.froz 1
          have f2 := X1.froz 2
          have f3 := X1.froz 3
          go_simp
          have OF := Lib.hid ((((own5.set (X := w.heap.size + 1) (by omega) 0 (.int .i64 x.sets)).set (X := w.heap.size + 1) (by omega) 1 (.int .i64 x.ways)).set (X := w.heap.size + 1) (by omega) 2 (.int .i64 x.clock)).set (X := w.heap.size + 1) (by omega) 3 (.slice (some ⟨g, 0, none⟩) n d))
          have BF := Lib.hid ((((B5.setCell (p := ⟨w.heap.size + 1, 0, none⟩) (Nat.le_succ _) (.int .i64 x.sets)).setCell (p := ⟨w.heap.size + 1, 1, none⟩) (Nat.le_succ _) (.int .i64 x.ways)).setCell (p := ⟨w.heap.size + 1, 2, none⟩) (Nat.le_succ _) (.int .i64 x.clock)).setCell (p := ⟨w.heap.size + 1, 3, none⟩) (Nat.le_succ _) (.slice (some ⟨g, 0, none⟩) n d))
          clear own5 B5
          go_wp2_with fail
          refine bodyPost_ret (v := .tuple #[.agg #[.int .i64 x.sets, .int .i64 x.ways, .int .i64 x.clock, .slice (some ⟨g, 0, none⟩) n d], .int .i64 0]) (by simp [results, Try.results18, go_sem, z0, z1, z2, z3]) rfl ?_
          rw [HU.out]
          show GivesC w (⟨x.sets, x.ways, x.clock, x.lines.set s (x.lines[s]!.eraseIdx k)⟩, 0) _ _
          unfold GivesC
          simp only [List.length_set, HN.out]
          exact ⟨(some ⟨g, 0, none⟩), d, rfl, ⟨_, OF.out.weaken hW0⟩, BF.out⟩
    · have htz : decide (t < 0) = true := decide_eq_true (by omega)
      have hU : dropC x t = (x, 1) := by unfold dropC; rw [if_neg (fun h => ht h.2)]
      have HU := Lib.hid hU
      clear hU hr
      have OF := Lib.hid ((((own3.set (X := w.heap.size + 1) (by omega) 0 (.int .i64 x.sets)).set (X := w.heap.size + 1) (by omega) 1 (.int .i64 x.ways)).set (X := w.heap.size + 1) (by omega) 2 (.int .i64 x.clock)).set (X := w.heap.size + 1) (by omega) 3 (.slice B n d))
      have BF := Lib.hid ((((b3.setCell (p := ⟨w.heap.size + 1, 0, none⟩) (Nat.le_succ _) (.int .i64 x.sets)).setCell (p := ⟨w.heap.size + 1, 1, none⟩) (Nat.le_succ _) (.int .i64 x.ways)).setCell (p := ⟨w.heap.size + 1, 2, none⟩) (Nat.le_succ _) (.int .i64 x.clock)).setCell (p := ⟨w.heap.size + 1, 3, none⟩) (Nat.le_succ _) (.slice B n d))
      clear own3 b3
      go_wp2_with fail
      refine bodyPost_ret (v := .tuple #[.agg #[.int .i64 x.sets, .int .i64 x.ways, .int .i64 x.clock, .slice B n d], .int .i64 1]) (by simp [results, Try.results18, go_sem, z0, z1, z2, z3]) rfl ?_
      rw [HU.out]
      show GivesC w (x, 1) _ _
      unfold GivesC
      simp only [HN.out]
      exact ⟨B, d, rfl, ⟨hs1, OF.out.weaken hW0⟩, BF.out⟩
end Go.Proofs.Ytdndanjabknjpaa
