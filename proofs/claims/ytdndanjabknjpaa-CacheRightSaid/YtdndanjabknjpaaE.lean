/- A cache of the call's own; the walk of copied. -/
import Derived.Test.YtdndanjabknjpaaD
namespace Go.Proofs.Ytdndanjabknjpaa
open Go.RowKit Go.Lib
set_option linter.unusedVariables false

/-- A slice of slices of the call's own. -/
structure OwnC (w : World) (base : Nat) (V : Value) (n : Nat) (ls : List (List Ln)) (hs : List Hd) : Prop where
  outer : w.ownsRow base 40 1 V n (hs.flatMap Hd.enc)
  num : ls.length = n
  len : hs.length = n
  inner : ∀ j, j < n → hs[j]!.len = ls[j]!.length ∧ w.ownsRow base 32 4 hs[j]!.val hs[j]!.len (ls[j]!.flatMap Ln.enc)
  apart : ∀ i j, i < j → j < n → Apart hs[i]!.val hs[j]!.val
theorem OwnC.below {w w' : World} {base n : Nat} {V : Value} {ls : List (List Ln)} {hs : List Hd} (h : OwnC w base V n ls hs) (hb : Below w.heap.size w w') : OwnC w' base V n ls hs :=
  ⟨own_below h.outer hb, h.num, h.len, fun j hj => ⟨(h.inner j hj).1, own_below (h.inner j hj).2 hb⟩, h.apart⟩
theorem OwnC.nil (w : World) (base : Nat) : OwnC w base (.slice none 0 0) 0 [] [] :=
  ⟨World.ownsRow_nil _ _ _ _, rfl, rfl, fun j hj => absurd hj (Nat.not_lt_zero _), fun i j _ hj => absurd hj (Nat.not_lt_zero _)⟩
theorem OwnC.cin {w : World} {base n c : Nat} {A : Option Addr} {ls : List (List Ln)} {hs : List Hd} (h : OwnC w base (.slice A n c) n ls hs) : CIn w A ls hs := by
  refine ⟨Sl.of_own Hd.enc_len h.outer h.len, by rw [h.len, h.num], fun j hj => ?_⟩
  obtain ⟨h1, h2⟩ := h.inner j (by rw [← h.num]; exact hj)
  have h3 : w.ownsRow base 32 4 (.slice hs[j]!.addr hs[j]!.len hs[j]!.cap) hs[j]!.len (ls[j]!.flatMap Ln.enc) := h2
  refine ⟨h1, (own_cap h3).1, fun e => ?_, Sl.of_own Ln.enc_len h3 h1.symm⟩
  rcases own_form h3 with ⟨_, _, e2⟩ | ⟨G, e2⟩
  · exact e2
  · rw [e2] at e; cases e
theorem OwnC.weaken {w : World} {base base' n : Nat} {V : Value} {ls : List (List Ln)} {hs : List Hd} (h : OwnC w base V n ls hs) (hb : base' ≤ base) : OwnC w base' V n ls hs :=
  ⟨own_weaken' h.outer hb, h.num, h.len, fun j hj => ⟨(h.inner j hj).1, own_weaken' (h.inner j hj).2 hb⟩, h.apart⟩
theorem appGet {α : Type} [Inhabited α] (l : List α) (x : α) (k : Nat) : (l ++ [x])[k]! = if k < l.length then l[k]! else if k = l.length then x else default := by
  by_cases h : k < l.length
  · rw [if_pos h, getElem!_pos (l ++ [x]) k (by simp; omega), List.getElem_append_left h, getElem!_pos l k h]
  · rw [if_neg h]
    by_cases h2 : k = l.length
    · subst h2
      rw [if_pos rfl, getElem!_pos (l ++ [x]) l.length (by simp)]
      simp
    · rw [if_neg h2, getElem!_neg (l ++ [x]) k (by simp; omega)]
theorem OwnC.push {w w3 : World} {base n m c : Nat} {V V' : Value} {B : Option Addr} {l : List Ln} {ls : List (List Ln)} {hs : List Hd} {o : Obj} (h : OwnC w base V n ls hs) (hv : w.ownsRow base 32 4 (.slice B m c) m (l.flatMap Ln.enc)) (hm : l.length = m)
    (hap : ∀ j, j < n → Apart hs[j]!.val (.slice B m c)) (ownN : w3.ownsRow base 40 1 V' (n + 1) (hs.flatMap Hd.enc ++ [.slice B m c])) (hg : (w.alloc o).grownBy w3 V.ownBlock) : OwnC w3 base V' (n + 1) (ls ++ [l]) (hs ++ [⟨B, m, c⟩]) := by
  have hn := h.num
  have hl := h.len
  refine ⟨?_, by simp [hn], by simp [hl], fun j hj => ?_, fun i j hij hj => ?_⟩
  · have e : (hs ++ [(⟨B, m, c⟩ : Hd)]).flatMap Hd.enc = hs.flatMap Hd.enc ++ [.slice B m c] := by simp [Hd.enc]
    rw [e]; exact ownN
  · rw [appGet, appGet, hl, hn]
    by_cases h1 : j < n
    · rw [if_pos h1, if_pos h1]
      obtain ⟨a1, a2⟩ := h.inner j h1
      exact ⟨a1, (a2.alloc o).kept hg (own_two a2 h.outer (by decide))⟩
    · obtain rfl : j = n := by omega
      rw [if_neg h1, if_neg h1, if_pos rfl, if_pos rfl]
      exact ⟨hm.symm, (hv.alloc o).kept hg (own_two hv h.outer (by decide))⟩
  · rw [appGet, appGet, hl]
    by_cases h1 : j < n
    · rw [if_pos h1, if_pos (by omega)]
      exact h.apart i j hij h1
    · obtain rfl : j = n := by omega
      rw [if_neg h1, if_pos rfl, if_pos hij]
      exact hap i hij
theorem apart_new {w : World} {base e k n m c : Nat} {v : Value} {B : Option Addr} {cs cs' : List Value} {w2 : World} {e2 k2 base2 : Nat} (h : w.ownsRow base e k v n cs) (h2 : w2.ownsRow base2 e2 k2 (.slice B m c) m cs') (hb : w.heap.size ≤ base2) : Apart v (.slice B m c) := fun b h1 h3 => by
  have := (h.lt b h1).2
  have := (h2.lt b h3).1
  omega
theorem OwnC.grown {w w' : World} {base n X : Nat} {V : Value} {ls : List (List Ln)} {hs : List Hd} (h : OwnC w base V n ls hs) (hg : w.grownBy w' (some X)) (hX : X < base) : OwnC w' base V n ls hs := by
  have ne : ∀ {e k n : Nat} {v : Value} {cs : List Value}, w.ownsRow base e k v n cs → v.ownBlock = none ∨ v.ownBlock ≠ some X := fun ho => .inr fun e => by have := (ho.lt X e).1; omega
  exact ⟨h.outer.kept hg (ne h.outer), h.num, h.len, fun j hj => ⟨(h.inner j hj).1, (h.inner j hj).2.kept hg (ne (h.inner j hj).2)⟩, h.apart⟩
theorem OwnC.set {w : World} {base n X : Nat} {V : Value} {ls : List (List Ln)} {hs : List Hd} (h : OwnC w base V n ls hs) (hX : X < base) (j : Nat) (u : Value) : OwnC (w.setCell ⟨X, j, none⟩ u) base V n ls hs :=
  h.grown (grown_set (World.grownBy.refl w _) u) hX
theorem lsTake {ls : List (List Ln)} {k : Nat} (hk : k < ls.length) : ls.take (k + 1) = ls.take k ++ [ls[k]!] := by
  rw [getElem!_pos ls k hk, List.take_append_getElem]

set_option maxHeartbeats 16000000 in
theorem copied_any (A : Option Addr) (c n : Nat) (x : Ca) (hs : List Hd) (w : World) (hc : CIn w A x.lines hs) (hn : x.lines.length = n) (hn1 : n ≤ 1000000) (hb : ∀ s, s < n → x.lines[s]!.length ≤ 1000000) :
    Calls Try.prog 24 #[.agg #[.int .i64 x.sets, .int .i64 x.ways, .int .i64 x.clock, .slice A n c]] w fun e w' => ∃ B d, e = .returned (.agg #[.int .i64 x.sets, .int .i64 x.ways, .int .i64 x.clock, .slice B n d]) ∧ (∃ hs', OwnC w' w.heap.size (.slice B n d) n x.lines hs') ∧ Below w.heap.size w w' := by
  obtain ⟨i0, hi, hz0, hz1, hz2⟩ := info_parts info40
  have b0 : Below w.heap.size w ((w.alloc (.cells #[.int .i64 x.sets, .int .i64 x.ways, .int .i64 x.clock, .slice A n c] 26)).alloc (.cells #[.int .i64 0, .int .i64 0, .int .i64 0, .slice none 0 0] 26)) := ((Below.refl _ _).alloc (Nat.le_refl _) _).alloc (by simp) _
  have HC := Lib.hid hc
  have HN := Lib.hid hn
  have HBD := Lib.hid hb
  have hX : ∀ W0, W0 = (w.alloc (.cells #[.int .i64 x.sets, .int .i64 x.ways, .int .i64 x.clock, .slice A n c] 26)).alloc (.cells #[.int .i64 0, .int .i64 0, .int .i64 0, .slice none 0 0] 26) → w.heap.size + 1 < W0.heap.size ∧ W0.cell? ⟨w.heap.size, 0, none⟩ = some (.int .i64 x.sets) ∧ W0.cell? ⟨w.heap.size, 1, none⟩ = some (.int .i64 x.ways) ∧ W0.cell? ⟨w.heap.size, 2, none⟩ = some (.int .i64 x.clock) ∧ W0.cell? ⟨w.heap.size, 3, none⟩ = some (.slice A n c) ∧ W0.frozen? ⟨w.heap.size, 3, none⟩ = false ∧
      W0.cell? ⟨w.heap.size + 1, 0, none⟩ = some (.int .i64 0) ∧ W0.cell? ⟨w.heap.size + 1, 1, none⟩ = some (.int .i64 0) ∧ W0.cell? ⟨w.heap.size + 1, 2, none⟩ = some (.int .i64 0) ∧ W0.cell? ⟨w.heap.size + 1, 3, none⟩ = some (.slice none 0 0) ∧
      W0.frozen? ⟨w.heap.size + 1, 0, none⟩ = false ∧ W0.frozen? ⟨w.heap.size + 1, 1, none⟩ = false ∧ W0.frozen? ⟨w.heap.size + 1, 2, none⟩ = false ∧ W0.frozen? ⟨w.heap.size + 1, 3, none⟩ = false := fun W0 e => by
    subst e
    exact ⟨by simp, by go_simp, by go_simp, by go_simp, by go_simp, by go_simp, by go_simp, by go_simp, by go_simp, by go_simp, by go_simp, by go_simp, by go_simp, by go_simp⟩
  have H0 := hX _ rfl
  clear hc hn hb hX
  go_enter Try.func24, Try.ntmps24
  go_wp2_with fail
  generalize (w.alloc (.cells #[.int .i64 x.sets, .int .i64 x.ways, .int .i64 x.clock, .slice A n c] 26)).alloc (.cells #[.int .i64 0, .int .i64 0, .int .i64 0, .slice none 0 0] 26) = W0 at *
  obtain ⟨lt1, x0, x1, x2, x3, fx3, z0, z1, z2, z3, fz0, fz1, fz2, fz3⟩ := H0
  have lt0 : w.heap.size < W0.heap.size := by omega
  have own0 := OwnC.nil W0 W0.heap.size
  go_loopg [3, 9] n (fun gg s3 s9 wr => ∃ (k : Nat) (hs' : List Hd), k ≤ n ∧ n - k ≤ gg ∧ s9 = .int .i64 (k : Int) ∧ OwnC wr W0.heap.size s3 k (x.lines.take k) hs' ∧ Aside (Below W0.heap.size W0 wr))
  case atStart => exact ⟨0, [], Nat.zero_le _, by omega, rfl, own0, Below.refl _ _⟩
  case round =>
    clear own0
    obtain ⟨k, hs', hk, hg, rfl, own, HB⟩ := hrel
    have B := HB.out
    obtain ⟨A3, c3, rfl⟩ := own_shape own.outer
    by_cases hlt : k < n
    · have hltz : (k : Int) < (n : Int) := by omega
      have hkl : k < x.lines.length := by rw [HN.out]; exact hlt
      obtain ⟨bb, off, B2, m, c2, e1, hcell, hm, hmc, _, hsl⟩ := ((HC.out.below b0).below B).at_ k hkl
      subst e1
      have hm1 : m ≤ 1000000 := by rw [← hm]; exact HBD.out k hlt
      have cC := clone_any B2 c2 m x.lines[k]! wr hsl hm hm1
      have HM := Lib.hid hm
      have HLT := Lib.hid (lsTake hkl)
      have OWN := Lib.hid own
      have hol := own.outer
      clear hm hsl hkl own
      go_wp2_with fail
      refine cC.mono ?_
      rintro e w2 ⟨v2, rfl, own2, hb2⟩
      obtain ⟨B4, c4, rfl⟩ := own_shape own2
      have OW2 := Lib.hid (OWN.out.below hb2)
      replace hol := own_below hol hb2
      have B22 := B.trans (hb2.mono B.size)
      have hbs := hb2.size
      have hBs := B.size
      clear cC hcell
      go_wp2_with (at_builtin; refine wpList_as ?_)
      intro _
      refine wpList_append_own_at _ rfl _ _ 24 rfl W0.heap.size 40 i0 _ 1 24 Try.underlying24 hi hz0 hz1 hz2 rfl (by decide) _ _ _ rfl (hol.alloc _) ⟨w2.heap.size, 0, none⟩ 1 1 [.slice B4 m c4] rfl rfl (fun j u hj => cell_new_block w2 _ 40 j u hj) (by intro u hu; simp at hu; subst hu; rfl) (by unfold maxLen; omega) (by omega) (by simp; omega) ?_
      intro v' w9 ownN hgrow hnil hat
      have hO := OW2.out.push (own_weaken' own2 hBs) HM.out (fun j hj => apart_new (OWN.out.inner j hj).2 own2 (Nat.le_refl _)) ownN hgrow
      rw [← HLT.out] at hO
      have b9 := below_append (k := 1) (B22.alloc (by omega) _) hgrow (by simp; omega) (hol.alloc _) (Nat.le_refl _)
      obtain ⟨A5, c5, rfl⟩ := own_shape ownN
      clear ownN hgrow hnil hat hol own2 hb2 B22
      go_wp2_with fail
      go_roundg (n - (k + 1))
      case measure => omega
      case rel => exact ⟨k + 1, _, by omega, by omega, by go_num, hO, (show Aside _ from b9)⟩
    · obtain rfl : k = n := by omega
      have hltz : ¬ (k : Int) < (k : Int) := by omega
      have hall : x.lines.take k = x.lines := List.take_of_length_le (by rw [HN.out]; exact Nat.le_refl _)
      rw [hall] at own
      replace x0 := (B.cell (p := ⟨w.heap.size, 0, none⟩) lt0).trans x0
      replace x1 := (B.cell (p := ⟨w.heap.size, 1, none⟩) lt0).trans x1
      replace x2 := (B.cell (p := ⟨w.heap.size, 2, none⟩) lt0).trans x2
      replace x3 := (B.cell (p := ⟨w.heap.size, 3, none⟩) lt0).trans x3
      replace fx3 := (B.frozen (p := ⟨w.heap.size, 3, none⟩) lt0).trans fx3
      replace z0 := (B.cell (p := ⟨w.heap.size + 1, 0, none⟩) lt1).trans z0
      replace z1 := (B.cell (p := ⟨w.heap.size + 1, 1, none⟩) lt1).trans z1
      replace z2 := (B.cell (p := ⟨w.heap.size + 1, 2, none⟩) lt1).trans z2
      replace z3 := (B.cell (p := ⟨w.heap.size + 1, 3, none⟩) lt1).trans z3
      replace fz0 := (B.frozen (p := ⟨w.heap.size + 1, 0, none⟩) lt1).trans fz0
      replace fz1 := (B.frozen (p := ⟨w.heap.size + 1, 1, none⟩) lt1).trans fz1
      replace fz2 := (B.frozen (p := ⟨w.heap.size + 1, 2, none⟩) lt1).trans fz2
      replace fz3 := (B.frozen (p := ⟨w.heap.size + 1, 3, none⟩) lt1).trans fz3
      have bz := b0.trans (B.mono b0.size)
      have hO := Lib.hid (((((own.set lt0 3 (.slice A3 k c3)).set lt1 0 (.int .i64 x.sets)).set lt1 1 (.int .i64 x.ways)).set lt1 2 (.int .i64 x.clock)).set lt1 3 (.slice A3 k c3))
      have hB9 := Lib.hid (((((bz.setCell (p := ⟨w.heap.size, 3, none⟩) (Nat.le_refl _) (.slice A3 k c3)).setCell (p := ⟨w.heap.size + 1, 0, none⟩) (Nat.le_succ _) (.int .i64 x.sets)).setCell (p := ⟨w.heap.size + 1, 1, none⟩) (Nat.le_succ _) (.int .i64 x.ways)).setCell (p := ⟨w.heap.size + 1, 2, none⟩) (Nat.le_succ _) (.int .i64 x.clock)).setCell (p := ⟨w.heap.size + 1, 3, none⟩) (Nat.le_succ _) (.slice A3 k c3))
      have hb0 := b0.size
      clear own bz hall hg
      go_wp2_with fail
      exact bodyPost_ret (v := .agg #[.int .i64 x.sets, .int .i64 x.ways, .int .i64 x.clock, .slice A3 k c3]) (by simp [results, Try.results24, go_sem, z0, z1, z2, z3]) rfl ⟨A3, c3, rfl, ⟨hs', hO.out.weaken hb0⟩, hB9.out⟩
end Go.Proofs.Ytdndanjabknjpaa
