/- The walk of cache.Put, where the address is there. -/
import Derived.Test.YtdndanjabknjpaaU
namespace Go.Proofs.Ytdndanjabknjpaa
open Go.RowKit Go.Lib

set_option linter.unusedVariables false
attribute [local go_sem] Act.puts

set_option maxHeartbeats 16000000 in
set_option maxRecDepth 100000 in
theorem put_found (A : Option Addr) (c n : Nat) (x : Ca) (hs : List Hd) (t st v : Int) (w : World) (hc : CIn w A x.lines hs) (hn : x.lines.length = n) (hn1 : n ≤ 1000000) (hb : ∀ s, s < n → x.lines[s]!.length ≤ 1000000) (hwf : WfC x) (hm : mayC x t = true) (h1 : ¬ st < 1) (h2 : ¬ 4 < st) (hi : ¬ idxA (setOf x t) t < 0) :
    Calls Try.prog 8 #[.agg #[.int .i64 x.sets, .int .i64 x.ways, .int .i64 x.clock, .slice A n c], .int .i64 t, .int .i64 st, .int .u32 v] w (GivesP w (putC x t st v)) := by
  have b0 : Below w.heap.size w (((w.alloc (.cells #[.int .i64 x.sets, .int .i64 x.ways, .int .i64 x.clock, .slice A n c] 26)).alloc (.cells #[.int .i64 0, .int .i64 0, .int .i64 0, .slice none 0 0] 26)).alloc (.cells #[.int .i64 0, .int .i64 0, .int .u32 0, .int .i64 0] 32)) := (((Below.refl _ _).alloc (Nat.le_refl _) _).alloc (by simp) _).alloc (by simp; omega) _
  have X0 := ((Bx.new w [.int .i64 x.sets, .int .i64 x.ways, .int .i64 x.clock, .slice A n c] 26).alloc (.cells #[.int .i64 0, .int .i64 0, .int .i64 0, .slice none 0 0] 26)).alloc (.cells #[.int .i64 0, .int .i64 0, .int .u32 0, .int .i64 0] 32)
  have X8 := (Bx.new (w.alloc (.cells #[.int .i64 x.sets, .int .i64 x.ways, .int .i64 x.clock, .slice A n c] 26)) [.int .i64 0, .int .i64 0, .int .i64 0, .slice none 0 0] 26).alloc (.cells #[.int .i64 0, .int .i64 0, .int .u32 0, .int .i64 0] 32)
  have X9 := Bx.new ((w.alloc (.cells #[.int .i64 x.sets, .int .i64 x.ways, .int .i64 x.clock, .slice A n c] 26)).alloc (.cells #[.int .i64 0, .int .i64 0, .int .i64 0, .slice none 0 0] 26)) (Ln.enc zeroL) 32
  rw [show (w.alloc (.cells #[.int .i64 x.sets, .int .i64 x.ways, .int .i64 x.clock, .slice A n c] 26)).heap.size = w.heap.size + 1 by simp] at X8
  rw [show ((w.alloc (.cells #[.int .i64 x.sets, .int .i64 x.ways, .int .i64 x.clock, .slice A n c] 26)).alloc (.cells #[.int .i64 0, .int .i64 0, .int .i64 0, .slice none 0 0] 26)).heap.size = w.heap.size + 2 by simp] at X9
  have HC := Lib.hid (hc.below b0)
  have cD := fun w1 (h : CIn w1 A x.lines hs) => copied_any A c n x hs w1 h hn hn1 hb
  have cM := fun w1 (h : CIn w1 A x.lines hs) => may_any A c n x hs t w1 h hn hwf
  have HN := Lib.hid hn
  have HBD := Lib.hid hb
  clear hc hwf hb
  have x0 := X0.cell 0 _ rfl
  have x1 := X0.cell 1 _ rfl
  have x2 := X0.cell 2 _ rfl
  have x3 := X0.cell 3 _ rfl
  obtain ⟨hr, ht, hclk⟩ := may_facts hm
  obtain ⟨s, hst, hsl, h0⟩ := set_of hr ht
  have hrf := right_facts hr
  have hsn : s < n := by rw [← HN.out]; exact hsl
  have hP : putC x t st v = (if idxA x.lines[s]! t < 0 then (⟨x.sets, x.ways, x.clock + 1, x.lines.set s ((pushC x x.lines[s]!).1 ++ [⟨t, st, v, x.clock + 1⟩])⟩, (pushC x x.lines[s]!).2, 0)
      else (⟨x.sets, x.ways, x.clock + 1, x.lines.set s (x.lines[s]!.set (idxA x.lines[s]! t).toNat ⟨t, st, v, x.clock + 1⟩)⟩, zeroL, 0)) := by
    unfold putC setOf
    rw [if_pos ⟨hm, by omega, by omega⟩, hst, Int.toNat_natCast]
  have cP := fun w1 B d hs1 h => place_any B d n s x hs1 t w1 h HN.out hsn hst h0 hn1
  rw [hm] at cM
  have q1 : decide (st < 1) = false := decide_eq_false h1
  have q2 : decide (4 < st) = false := decide_eq_false h2
  have hclk0 : 0 ≤ x.clock := by omega
  have hwy : x.ways ≤ 8 := by omega
  have hi2 : ¬ idxA x.lines[s]! t < 0 := by unfold setOf at hi; rw [hst, Int.toNat_natCast] at hi; exact hi
  clear hi
  clear hm h1 h2 hr hst h0 hrf
  go_enter Try.func8, Try.ntmps8
  go_wp2_with fail
  replace X9 : Bx (((w.alloc (.cells #[.int .i64 x.sets, .int .i64 x.ways, .int .i64 x.clock, .slice A n c] 26)).alloc (.cells #[.int .i64 0, .int .i64 0, .int .i64 0, .slice none 0 0] 26)).alloc (.cells #[.int .i64 0, .int .i64 0, .int .u32 0, .int .i64 0] 32)) (w.heap.size + 2) (Ln.enc zeroL) := X9
  generalize ((w.alloc (.cells #[.int .i64 x.sets, .int .i64 x.ways, .int .i64 x.clock, .slice A n c] 26)).alloc (.cells #[.int .i64 0, .int .i64 0, .int .i64 0, .slice none 0 0] 26)).alloc (.cells #[.int .i64 0, .int .i64 0, .int .u32 0, .int .i64 0] 32) = W0 at *
  refine (cD _ HC.out).mono ?_
  rintro e w1 ⟨B, d, rfl, ⟨hs1, own1⟩, hb1⟩
  have hW1 := X9.lt
  have hltV : ∀ g, (Value.slice B n d).ownBlock = some g → g < w1.heap.size := fun g hg => (own1.outer.lt g hg).2
  have hltI : ∀ j, j < n → ∀ g, hs1[j]!.val.ownBlock = some g → g < w1.heap.size := fun j hj g hg => ((own1.inner j hj).2.lt g hg).2
  have b1 := b0.trans (hb1.mono b0.size)
  have HC1 := Lib.hid ((HC.out.below hb1).below ((Below.refl _ _).alloc (Nat.le_refl _) (.cells #[.int .i64 x.sets, .int .i64 x.ways, .int .i64 x.clock, .slice B n d] 26)))
  replace X0 := (X0.below hb1).alloc (.cells #[.int .i64 x.sets, .int .i64 x.ways, .int .i64 x.clock, .slice B n d] 26)
  replace X8 := (X8.below hb1).alloc (.cells #[.int .i64 x.sets, .int .i64 x.ways, .int .i64 x.clock, .slice B n d] 26)
  replace X9 := (X9.below hb1).alloc (.cells #[.int .i64 x.sets, .int .i64 x.ways, .int .i64 x.clock, .slice B n d] 26)
  have D := Bx.new w1 [.int .i64 x.sets, .int .i64 x.ways, .int .i64 x.clock, .slice B n d] 26
  have own2 := own1.below ((Below.refl _ _).alloc (Nat.le_refl _) (.cells #[.int .i64 x.sets, .int .i64 x.ways, .int .i64 x.clock, .slice B n d] 26))
  have b2 := b1.alloc b1.size (.cells #[.int .i64 x.sets, .int .i64 x.ways, .int .i64 x.clock, .slice B n d] 26)
  have hD0 : W0.heap.size ≤ w1.heap.size := hb1.size
  have hW0 := b0.size
  clear cD hb1 own1 b1 b0 x0 x1 x2 x3
  have x0 := X0.cell 0 _ rfl
  have x1 := X0.cell 1 _ rfl
  have x2 := X0.cell 2 _ rfl
  have x3 := X0.cell 3 _ rfl
  go_wp2_with fail
  generalize w1.alloc (.cells #[.int .i64 x.sets, .int .i64 x.ways, .int .i64 x.clock, .slice B n d] 26) = W2 at *
  generalize w1.heap.size = DX at *
  refine (cM _ HC1.out).mono ?_
  rintro e w3 ⟨rfl, hb3⟩
  replace X8 := X8.below hb3
  replace X9 := X9.below hb3
  replace D := D.below hb3
  have own3 := own2.below hb3
  have b3 := b2.trans (hb3.mono b2.size)
  clear cM hb3 own2 b2 x0 x1 x2 x3 X0
  have hg0 : ∃ g, B = some ⟨g, 0, none⟩ := by
    obtain ⟨g, d', eB⟩ := own_slice own3.outer (by omega)
    injection eB with e1 e2 e3
    exact ⟨g, e1⟩
  obtain ⟨g, rfl⟩ := hg0
  have hlt3 := D.lt
  have bA : Below w3.heap.size w3 (w3.alloc (.cells #[.int .i64 0, .int .i64 0, .int .u32 0, .int .i64 0] 32)) := (Below.refl _ _).alloc (Nat.le_refl _) _
  have ST : PutS w W0.heap.size DX w3.heap.size g n d x x.lines zeroL (w3.alloc (.cells #[.int .i64 0, .int .i64 0, .int .u32 0, .int .i64 0] 32)) hs1 :=
    ⟨D.below bA, Bx.new w3 (Ln.enc zeroL) 32, X8.below bA, X9.below bA, own3.below bA, fun j hj b e => by have := hltI j hj b e; omega, b3.alloc b3.size _, by have := hltV g rfl; have := (own3.outer.lt g rfl).1; omega⟩
  have cP1 := cP (w3.alloc (.cells #[.int .i64 0, .int .i64 0, .int .u32 0, .int .i64 0] 32)) (some ⟨g, 0, none⟩) d hs1 ST.own.cin
  have D := ST.D
  have d0 := D.cell 0 _ rfl
  have d1 := D.cell 1 _ rfl
  have d2 := D.cell 2 _ rfl
  have d3 := D.cell 3 _ rfl
  clear cP bA X8 X9 own3 b3 hltV hltI hlt3
  rcases idxA_cases x.lines[s]! t with ⟨hi, hno⟩ | ⟨k, hk, hi, hka, hno⟩
  · omega
  rw [hi] at cP1 hP
  rw [if_neg (by omega), Int.toNat_natCast] at hP
  clear hi hi2 hno hsl
  have hP2 : putC x t st v = (⟨x.sets, x.ways, x.clock + 1, x.lines.set s (x.lines[s]!.set k ⟨x.lines[s]![k]!.addr, st, v, x.clock + 1⟩)⟩, zeroL, 0) := by rw [hka]; exact hP
  have HU := Lib.hid hP2
  clear hP hP2 hka
  go_wp2_with fail
  generalize w3.alloc (.cells #[.int .i64 0, .int .i64 0, .int .u32 0, .int .i64 0] 32) = W3 at *
  generalize w3.heap.size = OX at *
  refine cP1.mono ?_
  rintro e w4 ⟨rfl, hb4⟩
  replace ST := ST.below hb4
  clear cP1 hb4 D d0 d1 d2 d3
  obtain ⟨b, m, c2, he, hm, hmc, hbb, hbl, orow⟩ := ST.own.at_ hsn (Nat.lt_of_le_of_lt (Nat.zero_le _) hk)
  have hcell := ST.own.cellAt hsn he
  have d3 := ST.D.cell 3 _ rfl
  have hkm : (k : Int) < (m : Int) := by omega
  have hsz : (s : Int) < (n : Int) := by omega
  have c1 : w4.cell? ⟨b, k * 4 + 1, none⟩ = some (.int .i64 x.lines[s]![k]!.state) := own_cell orow (k * 4 + 1) _ (flat_at Ln.enc_len x.lines[s]! k 1 _ hk rfl)
  have c2' : w4.cell? ⟨b, k * 4 + 2, none⟩ = some (.int .u32 x.lines[s]![k]!.val_) := own_cell orow (k * 4 + 2) _ (flat_at Ln.enc_len x.lines[s]! k 2 _ hk rfl)
  have c3 : w4.cell? ⟨b, k * 4 + 3, none⟩ = some (.int .i64 x.lines[s]![k]!.used) := own_cell orow (k * 4 + 3) _ (flat_at Ln.enc_len x.lines[s]! k 3 _ hk rfl)
  have hf1 := own_frozen orow (k * 4 + 1)
  have hf2 := own_frozen orow (k * 4 + 2)
  have hf3 := own_frozen orow (k * 4 + 3)
  have SD := ST.done hsn hk he st v
  have hbD := (ST.rows s hsn b (by rw [he]; rfl)).1
  have e3 : ((w4.setCell ⟨b, k * 4 + 1, none⟩ (.int .i64 st)).setCell ⟨b, k * 4 + 2, none⟩ (.int .u32 v)).cell? ⟨b, k * 4 + 3, none⟩ = some (.int .i64 x.lines[s]![k]!.used) := by go_simp
  have ef3 : ((w4.setCell ⟨b, k * 4 + 1, none⟩ (.int .i64 st)).setCell ⟨b, k * 4 + 2, none⟩ (.int .u32 v)).frozen? ⟨b, k * 4 + 3, none⟩ = false := by go_simp
  have DM := (ST.D.far (Y := b) hbD (k * 4 + 1) (.int .i64 st)).far (Y := b) hbD (k * 4 + 2) (.int .u32 v)
  have cU := used_any DX b (k * 4) x.clock _ _ (DM.cell 2 _ rfl) (DM.froz 2) e3 ef3 (Ne.symm hbD) hclk0 hclk
  have HS := Lib.hid SD
  clear SD orow hm he hbb hbl c3 hf3 e3 ef3 DM ST
  go_wp2_with fail
  refine cU.mono ?_
  rintro e w5 ⟨rfl, hw5⟩
  have SD := HS.out
  rw [← hw5] at SD
  clear cU hw5 hcell d3 c1 c2' hf1 hf2 HS
  have D := SD.D
  have X8 := SD.X8
  have X9 := SD.X9
  have O := SD.O
  have d0 := D.cell 0 _ rfl
  have d1 := D.cell 1 _ rfl
  have d2 := D.cell 2 _ rfl
  have d3 := D.cell 3 _ rfl
  have z0 := X8.cell 0 _ rfl
  have z1 := X8.cell 1 _ rfl
  have z2 := X8.cell 2 _ rfl
  have z3 := X8.cell 3 _ rfl
  have f0 := X8.froz 0
  have f1 := X8.froz 1
  have f2 := X8.froz 2
  have f3 := X8.froz 3
  have y0 := X9.cell 0 _ rfl
  have y1 := X9.cell 1 _ rfl
  have y2 := X9.cell 2 _ rfl
  have y3 := X9.cell 3 _ rfl
  have g0 := X9.froz 0
  have g1 := X9.froz 1
  have g2 := X9.froz 2
  have g3 := X9.froz 3
  have o0 := O.cell 0 _ rfl
  have o1 := O.cell 1 _ rfl
  have o2 := O.cell 2 _ rfl
  have o3 := O.cell 3 _ rfl
  have own5 := SD.own
  have b5 := SD.b
  have hnum := SD.num
  have OF := True.intro
  have BF := True.intro
  have hE1 : w.heap.size + 2 < W0.heap.size := hnum.1
  obtain ⟨hn1', hn2', hn3', _, _, _⟩ := hnum
  have Dd := D.below (Below.refl _ _).drew
  have Od := O.below (Below.refl _ _).drew
  have X8d := X8.below (Below.refl _ _).drew
  have X9d := X9.below (Below.refl _ _).drew
  have OD := Lib.hid (((((((((own5.below (Below.refl _ _).drew).set (X := w.heap.size + 1) (by omega) 0 (.int .i64 x.sets)).set (X := w.heap.size + 1) (by omega) 1 (.int .i64 x.ways)).set (X := w.heap.size + 1) (by omega) 2 (.int .i64 (x.clock + 1))).set (X := w.heap.size + 1) (by omega) 3 (.slice (some ⟨g, 0, none⟩) n d)).set (X := w.heap.size + 2) (by omega) 0 (.int .i64 zeroL.addr)).set (X := w.heap.size + 2) (by omega) 1 (.int .i64 zeroL.state)).set (X := w.heap.size + 2) (by omega) 2 (.int .u32 zeroL.val_)).set (X := w.heap.size + 2) (by omega) 3 (.int .i64 zeroL.used))
  have BD := Lib.hid ((((((((b5.drew.setCell (p := ⟨w.heap.size + 1, 0, none⟩) (by show w.heap.size ≤ w.heap.size + 1; omega) (.int .i64 x.sets)).setCell (p := ⟨w.heap.size + 1, 1, none⟩) (by show w.heap.size ≤ w.heap.size + 1; omega) (.int .i64 x.ways)).setCell (p := ⟨w.heap.size + 1, 2, none⟩) (by show w.heap.size ≤ w.heap.size + 1; omega) (.int .i64 (x.clock + 1))).setCell (p := ⟨w.heap.size + 1, 3, none⟩) (by show w.heap.size ≤ w.heap.size + 1; omega) (.slice (some ⟨g, 0, none⟩) n d)).setCell (p := ⟨w.heap.size + 2, 0, none⟩) (by show w.heap.size ≤ w.heap.size + 2; omega) (.int .i64 zeroL.addr)).setCell (p := ⟨w.heap.size + 2, 1, none⟩) (by show w.heap.size ≤ w.heap.size + 2; omega) (.int .i64 zeroL.state)).setCell (p := ⟨w.heap.size + 2, 2, none⟩) (by show w.heap.size ≤ w.heap.size + 2; omega) (.int .u32 zeroL.val_)).setCell (p := ⟨w.heap.size + 2, 3, none⟩) (by show w.heap.size ≤ w.heap.size + 2; omega) (.int .i64 zeroL.used))
  clear X8 X9 own5 b5 SD d0 d1 d2 d3 o0 o1 o2 o3 z0 z1 z2 z3 y0 y1 y2 y3 f0 f1 f2 f3 g0 g1 g2 g3 OF BF D O
  go_wp2_with fail
  refine wp_region_rg (by kernel_rfl) (by kernel_rfl) [99, 100, 10] (OutRPhi w5.drew DX OX (w.heap.size + 1) (w.heap.size + 2) g n d ⟨x.sets, x.ways, x.clock + 1, x.lines⟩ zeroL) ?h0 ⟨?q0, ?q1, ?q2, ?q3, ?q4, trivial⟩ ?hend
  case h0 => exact ⟨_, _, _, _, rfl, ⟨trivial, (fun h => by cases h), (fun h => by cases h), (fun h => by cases h), (Dd), (Od), (fun _ => X8d), (fun _ => X9d), (fun _ => rfl), (fun h => by cases h), (fun h => by cases h)⟩, rfl⟩
  case q0 =>
    rintro L vs w' K ⟨u99, u100, u10, wz, rfl, φ, rfl⟩ hL hpre hcl hK G hG
    simp [Region.binds, closedFrom] at hpre hcl
    have D := φ.dd
    have d0 := D.cell 0 _ rfl
    have d1 := D.cell 1 _ rfl
    have d2 := D.cell 2 _ rfl
    have d3 := D.cell 3 _ rfl
    have hk := hK [(.agg #[.int .i64 x.sets, .int .i64 x.ways, .int .i64 (x.clock + 1), .slice (some ⟨g, 0, none⟩) n d]), u100, u10] wz ⟨_, _, _, wz, rfl,
      { b := φ.b,
        s0 := fun _ => rfl,
        s1 := fun h0 => φ.s1 (by simpa using h0),
        s4 := fun h0 => φ.s4 (by simpa using h0),
        dd := φ.dd,
        oo := φ.oo,
        x8 := fun h0 => φ.x8 (by simpa using h0),
        x9 := fun h0 => φ.x9 (by simpa using h0),
        m0 := fun h0 => φ.m0 (by simpa using h0),
        m1 := fun h0 h1 => φ.m1 (by simpa using h0) (by simpa using h1),
        m2 := fun h0 => φ.m2 (by simpa using h0) }, rfl⟩
    refine hG ?_
    clear hK φ hG
    revert hk
    go_simp
    first | done | exact fun h => h
  case q1 =>
    rintro L vs w' K ⟨u99, u100, u10, wz, rfl, φ, rfl⟩ hL hpre hcl hK G hG
    simp [Region.binds, closedFrom] at hpre hcl
    have O := φ.oo
    have d0 := O.cell 0 _ rfl
    have d1 := O.cell 1 _ rfl
    have d2 := O.cell 2 _ rfl
    have d3 := O.cell 3 _ rfl
    have hk := hK [u99, (.agg #[.int .i64 zeroL.addr, .int .i64 zeroL.state, .int .u32 zeroL.val_, .int .i64 zeroL.used]), u10] wz ⟨_, _, _, wz, rfl,
      { b := φ.b,
        s0 := fun h0 => φ.s0 (by simpa using h0),
        s1 := fun _ => rfl,
        s4 := fun h0 => φ.s4 (by simpa using h0),
        dd := φ.dd,
        oo := φ.oo,
        x8 := fun h0 => φ.x8 (by simpa using h0),
        x9 := fun h0 => φ.x9 (by simpa using h0),
        m0 := fun h0 => φ.m0 (by simpa using h0),
        m1 := fun h0 h1 => φ.m1 (by simpa using h0) (by simpa using h1),
        m2 := fun h0 => φ.m2 (by simpa using h0) }, rfl⟩
    refine hG ?_
    clear hK φ hG
    revert hk
    go_simp
    first | done | exact fun h => h
  case q2 =>
    rintro L vs w' K ⟨u99, u100, u10, wz, rfl, φ, rfl⟩ hL hpre hcl hK G hG
    simp [Region.binds, closedFrom] at hpre hcl
    have e0 := φ.s0 (by simp [hpre])
    subst e0
    have L3 : L 3 = false := by
      cases h : L 3 with
      | false => rfl
      | true => simp [h, hL] at hcl
    have X := φ.x8 hL
    have X' := φ.x9 L3
    have z0 := X.cell 0 _ rfl
    have z1 := X.cell 1 _ rfl
    have z2 := X.cell 2 _ rfl
    have z3 := X.cell 3 _ rfl
    have f0 := X.froz 0
    have f1 := X.froz 1
    have f2 := X.froz 2
    have f3 := X.froz 3
    have em := Lib.hid (φ.m0 hL)
    have hk := hK [(.agg #[.int .i64 x.sets, .int .i64 x.ways, .int .i64 (x.clock + 1), .slice (some ⟨g, 0, none⟩) n d]), u100, u10] ((((wz.setCell ⟨(w.heap.size + 1), 0, none⟩ (.int .i64 x.sets)).setCell ⟨(w.heap.size + 1), 1, none⟩ (.int .i64 x.ways)).setCell ⟨(w.heap.size + 1), 2, none⟩ (.int .i64 (x.clock + 1))).setCell ⟨(w.heap.size + 1), 3, none⟩ (.slice (some ⟨g, 0, none⟩) n d)) ⟨_, _, _, ((((wz.setCell ⟨(w.heap.size + 1), 0, none⟩ (.int .i64 x.sets)).setCell ⟨(w.heap.size + 1), 1, none⟩ (.int .i64 x.ways)).setCell ⟨(w.heap.size + 1), 2, none⟩ (.int .i64 (x.clock + 1))).setCell ⟨(w.heap.size + 1), 3, none⟩ (.slice (some ⟨g, 0, none⟩) n d)), rfl,
      { b := φ.b,
        s0 := fun h0 => φ.s0 (by simpa using h0),
        s1 := fun h0 => φ.s1 (by simpa using h0),
        s4 := fun h0 => φ.s4 (by simpa using h0),
        dd := ((((φ.dd).far (Y := w.heap.size + 1) (by omega) 0 _).far (Y := w.heap.size + 1) (by omega) 1 _).far (Y := w.heap.size + 1) (by omega) 2 _).far (Y := w.heap.size + 1) (by omega) 3 _,
        oo := ((((φ.oo).far (Y := w.heap.size + 1) (by omega) 0 _).far (Y := w.heap.size + 1) (by omega) 1 _).far (Y := w.heap.size + 1) (by omega) 2 _).far (Y := w.heap.size + 1) (by omega) 3 _,
        x8 := fun h => by simp at h,
        x9 := fun _ => ((((X').far (Y := w.heap.size + 1) (by omega) 0 _).far (Y := w.heap.size + 1) (by omega) 1 _).far (Y := w.heap.size + 1) (by omega) 2 _).far (Y := w.heap.size + 1) (by omega) 3 _,
        m0 := fun h => by simp at h,
        m1 := fun _ _ => by rw [em.out],
        m2 := fun h => by simp [L3] at h }, rfl⟩
    refine hG ?_
    clear hK φ hG
    revert hk
    go_simp
    first | done | exact fun h => h
  case q3 =>
    rintro L vs w' K ⟨u99, u100, u10, wz, rfl, φ, rfl⟩ hL hpre hcl hK G hG
    simp [Region.binds, closedFrom] at hpre hcl
    have e1 := φ.s1 (by simp [hpre])
    subst e1
    have L2 : L 2 = true := by simp [hpre]
    have X := φ.x9 hL
    have z0 := X.cell 0 _ rfl
    have z1 := X.cell 1 _ rfl
    have z2 := X.cell 2 _ rfl
    have z3 := X.cell 3 _ rfl
    have f0 := X.froz 0
    have f1 := X.froz 1
    have f2 := X.froz 2
    have f3 := X.froz 3
    have em := Lib.hid (φ.m1 L2 hL)
    have hk := hK [u99, (.agg #[.int .i64 zeroL.addr, .int .i64 zeroL.state, .int .u32 zeroL.val_, .int .i64 zeroL.used]), u10] ((((wz.setCell ⟨(w.heap.size + 2), 0, none⟩ (.int .i64 zeroL.addr)).setCell ⟨(w.heap.size + 2), 1, none⟩ (.int .i64 zeroL.state)).setCell ⟨(w.heap.size + 2), 2, none⟩ (.int .u32 zeroL.val_)).setCell ⟨(w.heap.size + 2), 3, none⟩ (.int .i64 zeroL.used)) ⟨_, _, _, ((((wz.setCell ⟨(w.heap.size + 2), 0, none⟩ (.int .i64 zeroL.addr)).setCell ⟨(w.heap.size + 2), 1, none⟩ (.int .i64 zeroL.state)).setCell ⟨(w.heap.size + 2), 2, none⟩ (.int .u32 zeroL.val_)).setCell ⟨(w.heap.size + 2), 3, none⟩ (.int .i64 zeroL.used)), rfl,
      { b := φ.b,
        s0 := fun h0 => φ.s0 (by simpa using h0),
        s1 := fun h0 => φ.s1 (by simpa using h0),
        s4 := fun h0 => φ.s4 (by simpa using h0),
        dd := ((((φ.dd).far (Y := w.heap.size + 2) (by omega) 0 _).far (Y := w.heap.size + 2) (by omega) 1 _).far (Y := w.heap.size + 2) (by omega) 2 _).far (Y := w.heap.size + 2) (by omega) 3 _,
        oo := ((((φ.oo).far (Y := w.heap.size + 2) (by omega) 0 _).far (Y := w.heap.size + 2) (by omega) 1 _).far (Y := w.heap.size + 2) (by omega) 2 _).far (Y := w.heap.size + 2) (by omega) 3 _,
        x8 := fun h => by simp [L2] at h,
        x9 := fun h => by simp at h,
        m0 := fun h => by simp [L2] at h,
        m1 := fun _ h => by simp at h,
        m2 := fun _ => by rw [em.out] }, rfl⟩
    refine hG ?_
    clear hK φ hG
    revert hk
    go_simp
    first | done | exact fun h => h
  case q4 =>
    rintro L vs w' K ⟨u99, u100, u10, wz, rfl, φ, rfl⟩ hL hpre hcl hK G hG
    simp [Region.binds, closedFrom] at hpre hcl
    have hk := hK [u99, u100, (.int .i64 0)] wz ⟨_, _, _, wz, rfl,
      { b := φ.b,
        s0 := fun h0 => φ.s0 (by simpa using h0),
        s1 := fun h0 => φ.s1 (by simpa using h0),
        s4 := fun _ => rfl,
        dd := φ.dd,
        oo := φ.oo,
        x8 := fun h0 => φ.x8 (by simpa using h0),
        x9 := fun h0 => φ.x9 (by simpa using h0),
        m0 := fun h0 => φ.m0 (by simpa using h0),
        m1 := fun h0 h1 => φ.m1 (by simpa using h0) (by simpa using h1),
        m2 := fun h0 => φ.m2 (by simpa using h0) }, rfl⟩
    refine hG ?_
    clear hK φ hG
    revert hk
    go_simp
    first | done | exact fun h => h
  case hend =>
    rintro vs w' ⟨u99, u100, u10, wz, rfl, φ, rfl⟩ G hG
    have e4 := φ.s4 rfl
    subst e4
    have em := φ.m2 rfl
    clear φ
    subst em
    generalize w5.drew = w6 at *
    refine hG ?_
    clear hG
    have z0 := X8d.cell 0 _ rfl
    have z1 := X8d.cell 1 _ rfl
    have z2 := X8d.cell 2 _ rfl
    have z3 := X8d.cell 3 _ rfl
    have y0 := X9d.cell 0 _ rfl
    have y1 := X9d.cell 1 _ rfl
    have y2 := X9d.cell 2 _ rfl
    have y3 := X9d.cell 3 _ rfl
    go_simp
    go_wp2_with fail

    refine bodyPost_ret (v := .tuple #[.agg #[.int .i64 x.sets, .int .i64 x.ways, .int .i64 (x.clock + 1), .slice (some ⟨g, 0, none⟩) n d], .agg #[.int .i64 zeroL.addr, .int .i64 zeroL.state, .int .u32 zeroL.val_, .int .i64 zeroL.used], .int .i64 0]) (by simp [results, Try.results8, go_sem, z0, z1, z2, z3, y0, y1, y2, y3]) rfl ?_
    rw [HU.out]
    unfold GivesP
    simp only [List.length_set, HN.out]
    exact ⟨some ⟨g, 0, none⟩, d, rfl, ⟨_, (by exact OD.out.weaken hW0)⟩, (by exact BD.out)⟩
end Go.Proofs.Ytdndanjabknjpaa
