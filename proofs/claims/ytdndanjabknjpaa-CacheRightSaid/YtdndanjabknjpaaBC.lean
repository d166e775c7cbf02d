/- The walk of the reference's with. -/
import Derived.Test.YtdndanjabknjpaaBB
namespace Go.Proofs.Ytdndanjabknjpaa
open Go.RowKit Go.Lib

set_option linter.unusedVariables false
/-- A block that a row does not use. -/
def RFar (Y : Nat) (B : Option Addr) (l : List Ln) : Prop := l ≠ [] → ∀ a, B = some a → a.block ≠ Y
/-- A block that a slice of slices does not use. -/
structure CFar (Y : Nat) (A : Option Addr) (ls : List (List Ln)) (hs : List Hd) : Prop where
  outer : hs ≠ [] → ∀ a, A = some a → a.block ≠ Y
  inner : ∀ j, j < ls.length → RFar Y hs[j]!.addr ls[j]!
theorem CIn.far {w : World} {A : Option Addr} {ls : List (List Ln)} {hs : List Hd} (h : CIn w A ls hs) {Y : Nat} (hY : w.heap.size ≤ Y) : CFar Y A ls hs :=
  ⟨fun hne a e => by have := h.outer.lt Hd.enc_len (by decide) hne a e; omega, fun j hj hne a e => by have := (h.inner j hj).2.2.2.lt Ln.enc_len (by decide) hne a e; omega⟩
theorem CIn.setFar {w : World} {A : Option Addr} {ls : List (List Ln)} {hs : List Hd} (h : CIn w A ls hs) {Y : Nat} (hf : CFar Y A ls hs) (k : Nat) (u : Value) : CIn (w.setCell ⟨Y, k, none⟩ u) A ls hs :=
  ⟨h.outer.setFar (q := ⟨Y, k, none⟩) hf.outer u, h.len, fun j hj => ⟨(h.inner j hj).1, (h.inner j hj).2.1, (h.inner j hj).2.2.1, (h.inner j hj).2.2.2.setFar (q := ⟨Y, k, none⟩) (hf.inner j hj) u⟩⟩
/-- A row that is only read. -/
def RowIn (w : World) (P : Nat → Prop) (l : List Ln) (v : Value) : Prop :=
  ∃ B m d, v = .slice B m d ∧ l.length = m ∧ m ≤ d ∧ (B = none → d = 0) ∧ Sl 4 Ln.enc w B l ∧ ∀ Y, P Y → RFar Y B l
theorem RowIn.below {w w' : World} {P : Nat → Prop} {l : List Ln} {v : Value} (h : RowIn w P l v) (hb : Below w.heap.size w w') : RowIn w' P l v := by
  obtain ⟨B, m, d, h1, h2, h3, h4, h5, h6⟩ := h
  exact ⟨B, m, d, h1, h2, h3, h4, h5.below hb, h6⟩
theorem RowIn.weak {w : World} {P Q : Nat → Prop} {l : List Ln} {v : Value} (h : RowIn w P l v) (hq : ∀ Y, Q Y → P Y) : RowIn w Q l v := by
  obtain ⟨B, m, d, h1, h2, h3, h4, h5, h6⟩ := h
  exact ⟨B, m, d, h1, h2, h3, h4, h5, fun Y hY => h6 Y (hq Y hY)⟩
/-- A cache that is only read. -/
def CRes (w : World) (P : Nat → Prop) (y : Ca) (v : Value) : Prop :=
  ∃ B d hs, v = .agg #[.int .i64 y.sets, .int .i64 y.ways, .int .i64 y.clock, .slice B y.lines.length d] ∧ CIn w B y.lines hs ∧ ∀ Y, P Y → CFar Y B y.lines hs
theorem CRes.below {w w' : World} {P : Nat → Prop} {y : Ca} {v : Value} (h : CRes w P y v) (hb : Below w.heap.size w w') : CRes w' P y v := by
  obtain ⟨B, d, hs, h1, h2, h3⟩ := h
  exact ⟨B, d, hs, h1, h2.below hb, h3⟩
theorem CRes.weak {w : World} {P Q : Nat → Prop} {y : Ca} {v : Value} (h : CRes w P y v) (hq : ∀ Y, Q Y → P Y) : CRes w Q y v := by
  obtain ⟨B, d, hs, h1, h2, h3⟩ := h
  exact ⟨B, d, hs, h1, h2, fun Y hY => h3 Y (hq Y hY)⟩
theorem CRes.set {w : World} {P : Nat → Prop} {y : Ca} {v : Value} (h : CRes w P y v) {Y : Nat} (hY : P Y) (k : Nat) (u : Value) : CRes (w.setCell ⟨Y, k, none⟩ u) P y v := by
  obtain ⟨B, d, hs, h1, h2, h3⟩ := h
  exact ⟨B, d, hs, h1, h2.setFar (h3 Y hY) k u, h3⟩
/-- A variable that holds a cache that is only read. -/
def CVar (w : World) (P : Nat → Prop) (y : Ca) (X : Nat) : Prop :=
  ∃ B d hs, Bx w X [.int .i64 y.sets, .int .i64 y.ways, .int .i64 y.clock, .slice B y.lines.length d] ∧ CIn w B y.lines hs ∧ ∀ Y, P Y → CFar Y B y.lines hs
theorem CVar.below {w w' : World} {P : Nat → Prop} {y : Ca} {X : Nat} (h : CVar w P y X) (hb : Below w.heap.size w w') : CVar w' P y X := by
  obtain ⟨B, d, hs, h1, h2, h3⟩ := h
  exact ⟨B, d, hs, h1.below hb, h2.below hb, h3⟩
theorem CVar.far {w : World} {P : Nat → Prop} {y : Ca} {X Y : Nat} (h : CVar w P y X) (hY : P Y) (hne : Y ≠ X) (k : Nat) (u : Value) : CVar (w.setCell ⟨Y, k, none⟩ u) P y X := by
  obtain ⟨B, d, hs, h1, h2, h3⟩ := h
  exact ⟨B, d, hs, h1.far hne k u, h2.setFar (h3 Y hY) k u, h3⟩
/-- What hands back a cache that is only read, made of another. -/
def GivesX (w : World) (A : Option Addr) (ls : List (List Ln)) (hs : List Hd) (r : Ca × Int) (e : Ending) (w' : World) : Prop :=
  ∃ v, e = .returned (.tuple #[v, .int .i64 r.2]) ∧ CRes w' (fun Y => Y < w.heap.size ∧ CFar Y A ls hs) r.1 v ∧ Below w.heap.size w w'
theorem CIn.put {w w' : World} {A A' : Option Addr} {ls : List (List Ln)} {hs : List Hd} {s m d : Nat} {B : Option Addr} {l : List Ln} (h : CIn w A ls hs) (hb : Below w.heap.size w w') (ho : Sl 1 Hd.enc w' A' (hs.set s ⟨B, m, d⟩)) (hs' : s < ls.length)
    (hl : l.length = m) (hmd : m ≤ d) (hB0 : B = none → d = 0) (hsl : Sl 4 Ln.enc w B l) : CIn w' A' (ls.set s l) (hs.set s ⟨B, m, d⟩) := by
  have hhs : s < hs.length := by rw [h.len]; exact hs'
  refine ⟨ho, by rw [List.length_set, List.length_set]; exact h.len, fun j hj => ?_⟩
  rw [List.length_set] at hj
  rw [setGet, setGet]
  by_cases hjs : s = j
  · subst hjs
    rw [if_pos ⟨rfl, hhs⟩, if_pos ⟨rfl, hs'⟩]
    exact ⟨hl.symm, hmd, hB0, hsl.below hb⟩
  · rw [if_neg (fun h => hjs h.1), if_neg (fun h => hjs h.1)]
    obtain ⟨h1, h2, h3, h4⟩ := h.inner j hj
    exact ⟨h1, h2, h3, h4.below hb⟩
theorem own_far {w : World} {b e k n c g X : Nat} {cs : List Value} (h : w.ownsRow b e k (.slice (some ⟨g, 0, none⟩) n c) n cs) (hX : X < b) (j : Nat) (u : Value) : (w.setCell ⟨X, j, none⟩ u).ownsRow b e k (.slice (some ⟨g, 0, none⟩) n c) n cs :=
  h.kept (grown_set (World.grownBy.refl w (some X)) u) (.inr fun e => by have := (h.lt X e).1; omega)
set_option maxHeartbeats 8000000 in
set_option maxRecDepth 100000 in
theorem with_any (A : Option Addr) (c n s : Nat) (x : Ca) (hs : List Hd) (B : Option Addr) (m d : Nat) (l : List Ln) (w : World) (hc : CIn w A x.lines hs) (hn : x.lines.length = n) (hn1 : n ≤ 1000000) (hsn : s < n)
    (hl : l.length = m) (hmd : m ≤ d) (hB0 : B = none → d = 0) (hsl : Sl 4 Ln.enc w B l) :
    Calls Try.prog 36 #[.agg #[.int .i64 x.sets, .int .i64 x.ways, .int .i64 x.clock, .slice A n c], .int .i64 (s : Int), .slice B m d] w fun e w' => ∃ v, e = .returned v ∧ CRes w' (fun Y => Y < w.heap.size ∧ CFar Y A x.lines hs ∧ RFar Y B l) ⟨x.sets, x.ways, x.clock, x.lines.set s l⟩ v ∧ Below w.heap.size w w' := by
  obtain ⟨i0, hi, hz0, hz1, hz2⟩ := info_parts info40
  have b0 : Below w.heap.size w ((w.alloc (.cells #[.int .i64 x.sets, .int .i64 x.ways, .int .i64 x.clock, .slice A n c] 26)).alloc (.cells #[.int .i64 0, .int .i64 0, .int .i64 0, .slice none 0 0] 26)) := ((Below.refl _ _).alloc (Nat.le_refl _) _).alloc (by simp) _
  have X := (Bx.new w [.int .i64 x.sets, .int .i64 x.ways, .int .i64 x.clock, .slice A n c] 26).alloc (.cells #[.int .i64 0, .int .i64 0, .int .i64 0, .slice none 0 0] 26)
  have Y := Bx.new (w.alloc (.cells #[.int .i64 x.sets, .int .i64 x.ways, .int .i64 x.clock, .slice A n c] 26)) [.int .i64 0, .int .i64 0, .int .i64 0, .slice none 0 0] 26
  rw [show (w.alloc (.cells #[.int .i64 x.sets, .int .i64 x.ways, .int .i64 x.clock, .slice A n c] 26)).heap.size = w.heap.size + 1 by simp] at Y
  have hhs : hs.length = n := by rw [hc.len]; exact hn
  have HC := Lib.hid hc
  have HN := Lib.hid hn
  have HL := Lib.hid hl
  have HMD := Lib.hid hmd
  have HB0 := Lib.hid hB0
  have HSL := Lib.hid hsl
  have HHS := Lib.hid hhs
  have hS0 := hc.outer.below b0
  have HS0 := Lib.hid hS0
  have hsz : (s : Int) < (n : Int) := by omega
  have x3 := X.cell 3 _ rfl
  have hm1 : n ≤ maxLen := by unfold maxLen; omega
  have hm2 : (0 + n) * 24 ≤ 140737488355328 := by omega
  have hm3 : 0 + n ≤ maxLen := by omega
  have hlt1 := Y.lt
  have HM2 := Lib.hid hm2
  have HM3 := Lib.hid hm3
  clear hc hn hl hmd hB0 hsl hhs hS0 hn1 hm1 hm2 hm3
  go_enter Try.func36, Try.ntmps36
  go_wp2_with (at_builtin; refine wpList_as ?_)
  intro _
  have hW0 : (((w.alloc (.cells #[.int .i64 x.sets, .int .i64 x.ways, .int .i64 x.clock, .slice A n c] 26)).alloc (.cells #[.int .i64 0, .int .i64 0, .int .i64 0, .slice none 0 0] 26))).heap.size = w.heap.size + 1 + 1 := by simp
  generalize ((w.alloc (.cells #[.int .i64 x.sets, .int .i64 x.ways, .int .i64 x.clock, .slice A n c] 26)).alloc (.cells #[.int .i64 0, .int .i64 0, .int .i64 0, .slice none 0 0] 26)) = W0 at *
  have oM := World.ownsRow_made (e := 40) (size := 1) W0 #[] 0 (Nat.le_refl _) (Nat.zero_le _) (by simp)
  rw [hW0] at oM
  refine wpList_append_sl _ rfl _ _ 24 rfl (w.heap.size + 1 + 1) 40 i0 _ 1 24 Try.underlying24 hi hz0 hz1 hz2 rfl (by decide) _ 0 _ rfl oM Hd.enc Hd.enc_len Hd.enc_one A n c hs rfl HHS.out (HS0.out.below bnew) HM3.out HM2.out (by simp; omega) ?_
  intro v' w9 ownN hgrow hat
  have b9 : Below W0.heap.size W0 w9 := below_append (k := 1) bnew hgrow (by simp) oM (by omega)
  rw [Nat.zero_add, List.nil_append] at ownN
  obtain ⟨g, c3, rfl⟩ := own_slice ownN (by omega)
  have hgb : w.heap.size + 1 + 1 ≤ g := (own_block ownN).1
  clear hgrow hat x3
  replace X := X.below b9
  replace Y := Y.below b9
  have x0 := X.cell 0 _ rfl
  have x1 := X.cell 1 _ rfl
  have x2 := X.cell 2 _ rfl
  have x3 := X.cell 3 _ rfl
  have f3 := X.froz 3
  have y0 := Y.cell 0 _ rfl
  have y1 := Y.cell 1 _ rfl
  have y2 := Y.cell 2 _ rfl
  have y3 := Y.cell 3 _ rfl
  have g0 := Y.froz 0
  have g1 := Y.froz 1
  have g2 := Y.froz 2
  have g3 := Y.froz 3
  have hsi : s < hs.length := by rw [HHS.out]; omega
  have gq := flat_at Hd.enc_len hs s 0 _ hsi rfl
  rw [Nat.mul_one, Nat.add_zero] at gq
  have gc := own_cell ownN s _ gq
  have gf := own_frozen ownN s
  have ng1 : g ≠ w.heap.size := by omega
  have ng2 : g ≠ w.heap.size + 1 := by omega
  have ng3 := ng1.symm
  have ng4 := ng2.symm
  have own2 := own_set ownN s (.slice B m d)
  have e2 := flat_set Hd.enc_len hs s 0 ⟨B, m, d⟩ (.slice B m d) hsi (by decide) rfl
  rw [Nat.mul_one, Nat.add_zero] at e2
  rw [e2] at own2
  have own3 := own_far (own_far (own_far (own_far (own_far own2 (X := w.heap.size) (by omega) 3 (.slice (some ⟨g, 0, none⟩) n c3)) (X := w.heap.size + 1) (by omega) 0 (.int .i64 x.sets)) (X := w.heap.size + 1) (by omega) 1 (.int .i64 x.ways)) (X := w.heap.size + 1) (by omega) 2 (.int .i64 x.clock)) (X := w.heap.size + 1) (by omega) 3 (.slice (some ⟨g, 0, none⟩) n c3)
  have bF := (b0.trans (b9.mono b0.size)).setCell (p := ⟨g, s, none⟩) (by show w.heap.size ≤ g; have := b0.size; omega) (.slice B m d)
  have bG := (((((bF.setCell (p := ⟨w.heap.size, 3, none⟩) (by first | exact Nat.le_refl _ | exact Nat.le_succ _) (.slice (some ⟨g, 0, none⟩) n c3)).setCell (p := ⟨w.heap.size + 1, 0, none⟩) (by first | exact Nat.le_refl _ | exact Nat.le_succ _) (.int .i64 x.sets)).setCell (p := ⟨w.heap.size + 1, 1, none⟩) (by first | exact Nat.le_refl _ | exact Nat.le_succ _) (.int .i64 x.ways)).setCell (p := ⟨w.heap.size + 1, 2, none⟩) (by first | exact Nat.le_refl _ | exact Nat.le_succ _) (.int .i64 x.clock)).setCell (p := ⟨w.heap.size + 1, 3, none⟩) (by first | exact Nat.le_refl _ | exact Nat.le_succ _) (.slice (some ⟨g, 0, none⟩) n c3))
  have cF := HC.out.put bG (Sl.of_own Hd.enc_len own3 (by rw [List.length_set]; exact HHS.out)) (by rw [HN.out]; omega) HL.out HMD.out HB0.out HSL.out
  have CF := Lib.hid cF
  have BG := Lib.hid bG
  clear cF bG bF own3 own2 e2 ownN b9
  go_wp2_with fail
  refine bodyPost_ret (v := .agg #[.int .i64 x.sets, .int .i64 x.ways, .int .i64 x.clock, .slice (some ⟨g, 0, none⟩) n c3]) (by simp [results, Try.results36, go_sem, x0, x1, x2, x3, y0, y1, y2, y3, ng1, ng2, ng3, ng4]) rfl ?_
  refine ⟨_, rfl, ⟨some ⟨g, 0, none⟩, c3, hs.set s ⟨B, m, d⟩, ?_, CF.out, fun Y hY => ⟨fun _ a e => ?_, fun j hj => ?_⟩⟩, BG.out⟩
  · simp only [List.length_set, HN.out]
  · have : a.block = g := by rw [← Option.some.inj e]
    have := hY.1
    omega
  · rw [List.length_set] at hj
    rw [setGet, setGet]
    by_cases hjs : s = j
    · subst hjs
      rw [if_pos ⟨rfl, hsi⟩, if_pos ⟨rfl, hj⟩]
      exact hY.2.2
    · rw [if_neg (fun h => hjs h.1), if_neg (fun h => hjs h.1)]
      exact hY.2.1.inner j hj
end Go.Proofs.Ytdndanjabknjpaa
