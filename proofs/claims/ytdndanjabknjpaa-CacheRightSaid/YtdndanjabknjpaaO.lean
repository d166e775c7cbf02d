/- The walk of cache's push. -/
import Derived.Test.YtdndanjabknjpaaN
namespace Go.Proofs.Ytdndanjabknjpaa
open Go.RowKit Go.Lib
set_option linter.unusedVariables false
attribute [local go_sem] Act.puts
/-- All but a variable and a row stays. -/
structure Two2 (w w' : World) (x g : Nat) : Prop where
  os : w'.os = w.os
  tape : w'.tape = w.tape
  output : w'.output = w.output
  size : w.heap.size ≤ w'.heap.size
  block : ∀ k, k < w.heap.size → k ≠ x → k ≠ g → w'.heap[k]? = w.heap[k]?
theorem Two2.refl (w : World) (x g : Nat) : Two2 w w x g := ⟨rfl, rfl, rfl, Nat.le_refl _, fun _ _ _ _ => rfl⟩
theorem Two2.grown {w w1 w2 : World} {x g : Nat} (h : Two2 w w1 x g) (hg : w1.grownBy w2 (some g)) : Two2 w w2 x g :=
  ⟨hg.os.trans h.os, hg.tape.trans h.tape, hg.output.trans h.output, Nat.le_trans h.size hg.size, fun k hk h1 h2 => (hg.block k (Nat.lt_of_lt_of_le hk h.size) (by simpa using h2)).trans (h.block k hk h1 h2)⟩
theorem Two2.setx {w w1 : World} {x g : Nat} (h : Two2 w w1 x g) (j : Nat) (u : Value) : Two2 w (w1.setCell ⟨x, j, none⟩ u) x g :=
  ⟨h.os, h.tape, h.output, by simpa using h.size, fun k hk h1 h2 => by rw [← h.block k hk h1 h2]; simp [World.setCell, Array.getElem?_modify, Ne.symm h1]⟩
theorem Two2.below {w w1 w2 : World} {x g : Nat} (h : Two2 w w1 x g) (hb : Below w1.heap.size w1 w2) : Two2 w w2 x g :=
  h.grown ⟨hb.os, hb.tape, hb.output, hb.size, fun k hk _ => hb.block k hk⟩
theorem Bx.grown {w w' : World} {X r : Nat} {cs : List Value} (h : Bx w X cs) (hg : w.grownBy w' (some r)) (hne : r ≠ X) : Bx w' X cs := by
  have hk : w'.heap[X]? = w.heap[X]? := hg.block X h.lt (by simpa using Ne.symm hne)
  exact ⟨fun i v hi => (World.cell?_of_block (w := w) (a := ⟨X, i, none⟩) hk).trans (h.cell i v hi), fun i => (World.frozen?_of_block (w := w) (a := ⟨X, i, none⟩) hk).trans (h.froz i), Nat.lt_of_lt_of_le h.lt hg.size⟩
structure PuR (w0 : World) (base g n c k T3 T4 : Nat) (l : List Ln) (m : Ln) (L : Nat → Bool) (u7 u8 u9 u10 u2 : Value) (wz : World) : Prop where
  b : Two2 w0 wz T3 g
  s0 : L 0 = true → u7 = .slice (some ⟨g, 0, none⟩) n c
  s1 : L 1 = true → u8 = .func (.func 45) #[] #[.pointer (some ⟨T4, 0, none⟩)]
  s2 : L 2 = true → u9 = .slice (some ⟨g, 0, none⟩) k c
  s3 : L 3 = true → u10 = .agg #[.int .i64 m.addr, .int .i64 m.state, .int .u32 m.val_, .int .i64 m.used]
  s4 : L 4 = true → u2 = .slice (some ⟨g, 0, none⟩) k c
  o0 : L 2 = false → wz.ownsRow base 32 4 (.slice (some ⟨g, 0, none⟩) n c) n (l.flatMap Ln.enc)
  o1 : L 2 = true → wz.ownsRow base 32 4 (.slice (some ⟨g, 0, none⟩) k c) k ((l.filter fun x => !decide (x = m)).flatMap Ln.enc)
  x0 : L 5 = false → Bx wz T3 [.int .i64 0, .int .i64 0, .int .u32 0, .int .i64 0]
  x1 : L 5 = true → Bx wz T3 (Ln.enc m)
  y0 : L 0 = L 0 → Bx wz T4 (Ln.enc m)
def PuRPhi (w0 : World) (base g n c k T3 T4 : Nat) (l : List Ln) (m : Ln) (L : Nat → Bool) (vs : List Value) (w' : World) : Prop :=
  ∃ u7 u8 u9 u10 u2 wz, vs = [u7, u8, u9, u10, u2] ∧ PuR w0 base g n c k T3 T4 l m L u7 u8 u9 u10 u2 wz ∧ wz = w'

set_option maxHeartbeats 16000000 in
set_option maxRecDepth 100000 in
theorem push_any (g base n c : Nat) (l : List Ln) (w : World) (own : w.ownsRow base 32 4 (.slice (some ⟨g, 0, none⟩) n c) n (l.flatMap Ln.enc)) (hn : l.length = n) (h0 : 0 < n) (hn1 : n ≤ 1000000) :
    Calls Try.prog 27 #[.slice (some ⟨g, 0, none⟩) n c] w fun e w' => ∃ k : Nat, e = .returned (.tuple #[.slice (some ⟨g, 0, none⟩) k c, .agg #[.int .i64 (minD l).addr, .int .i64 (minD l).state, .int .u32 (minD l).val_, .int .i64 (minD l).used]]) ∧ (l.filter fun x => !decide (x = minD l)).length = k ∧ w'.ownsRow base 32 4 (.slice (some ⟨g, 0, none⟩) k c) k ((l.filter fun x => !decide (x = minD l)).flatMap Ln.enc) ∧ w.grownBy w' (some g) := by
  have gl := (own.lt g rfl).2
  have cM := minFunc_any (some ⟨g, 0, none⟩) c n l (w.alloc (.cells #[.int .i64 0, .int .i64 0, .int .u32 0, .int .i64 0] 32)) ((Sl.of_own Ln.enc_len own hn).below bnew) hn h0 hn1
  have X0 := Bx.new w [.int .i64 0, .int .i64 0, .int .u32 0, .int .i64 0] 32
  have own0 := own.alloc (.cells #[.int .i64 0, .int .i64 0, .int .u32 0, .int .i64 0] 32)
  have HN := Lib.hid hn
  clear hn own
  generalize minD l = m at *
  go_enter Try.func27, Try.ntmps27
  go_wp2_with fail
  refine cM.mono ?_
  rintro e w1 ⟨rfl, hb1⟩
  clear cM
  go_wp2_with fail
  have hT4 : w.heap.size < w1.heap.size := by have := hb1.size; simp at this; omega
  have hg4 : g < w1.heap.size := by omega
  obtain ⟨k, hk⟩ : ∃ k, (l.filter fun x => !decide (x = m)).length = k := ⟨_, rfl⟩
  have HK := Lib.hid hk
  have G1 : w.grownBy w1 (some g) := grown_of_below (World.grownBy_alloc w _ _) hb1
  have X1 := ((X0.below hb1).alloc (.cells #[.int .i64 m.addr, .int .i64 m.state, .int .u32 m.val_, .int .i64 m.used] 32)).below (Below.refl _ _).drew
  have Y1 := (Bx.new w1 (Ln.enc m) 32).below (Below.refl _ _).drew
  have O1 := ((own_below own0 hb1).alloc (.cells #[.int .i64 m.addr, .int .i64 m.state, .int .u32 m.val_, .int .i64 m.used] 32))
  have O2 : (w1.alloc (.cells #[.int .i64 m.addr, .int .i64 m.state, .int .u32 m.val_, .int .i64 m.used] 32)).drew.ownsRow base 32 4 (.slice (some ⟨g, 0, none⟩) n c) n (l.flatMap Ln.enc) := O1
  clear hk O1 own0 X0 hb1
  generalize hT : w1.heap.size = T4 at *
  generalize hT3 : w.heap.size = T3 at X1 gl hT4 ⊢
  refine wp_region_rg (by kernel_rfl) (by kernel_rfl) [7, 8, 9, 10, 2] (PuRPhi (w1.alloc (.cells #[.int .i64 m.addr, .int .i64 m.state, .int .u32 m.val_, .int .i64 m.used] 32)).drew base g n c k T3 T4 l m) ?h0 ⟨?q0, ?q1, ?q2, ?q3, ?q4, ?q5, trivial⟩ ?hend
  case h0 => exact ⟨_, _, _, _, _, _, rfl, ⟨Two2.refl _ _ _, (fun h => by cases h), (fun h => by cases h), (fun h => by cases h), (fun h => by cases h), (fun h => by cases h), (fun _ => O2), (fun h => by cases h), (fun _ => X1), (fun h => by cases h), (fun _ => Y1)⟩, rfl⟩
  case q0 =>
    rintro L vs w' K ⟨u7, u8, u9, u10, u2, wz, rfl, φ, rfl⟩ hL hpre hcl hK G hG
    simp [Region.binds, closedFrom] at hpre hcl
    have hk := hK [(.slice (some ⟨g, 0, none⟩) n c), u8, u9, u10, u2] wz ⟨_, _, _, _, _, wz, rfl,
      { b := φ.b,
        s0 := fun _ => rfl,
        s1 := fun h0 => φ.s1 (by simpa using h0),
        s2 := fun h0 => φ.s2 (by simpa using h0),
        s3 := fun h0 => φ.s3 (by simpa using h0),
        s4 := fun h0 => φ.s4 (by simpa using h0),
        o0 := fun h0 => φ.o0 (by simpa using h0),
        o1 := fun h0 => φ.o1 (by simpa using h0),
        x0 := fun h0 => φ.x0 (by simpa using h0),
        x1 := fun h0 => φ.x1 (by simpa using h0),
        y0 := fun _ => φ.y0 rfl }, rfl⟩
    refine hG ?_
    clear hK φ hG
    revert hk
    go_simp
    first | done | exact fun h => h
  case q1 =>
    rintro L vs w' K ⟨u7, u8, u9, u10, u2, wz, rfl, φ, rfl⟩ hL hpre hcl hK G hG
    simp [Region.binds, closedFrom] at hpre hcl
    have hk := hK [u7, (.func (.func 45) #[] #[.pointer (some ⟨T4, 0, none⟩)]), u9, u10, u2] wz ⟨_, _, _, _, _, wz, rfl,
      { b := φ.b,
        s0 := fun h0 => φ.s0 (by simpa using h0),
        s1 := fun _ => rfl,
        s2 := fun h0 => φ.s2 (by simpa using h0),
        s3 := fun h0 => φ.s3 (by simpa using h0),
        s4 := fun h0 => φ.s4 (by simpa using h0),
        o0 := fun h0 => φ.o0 (by simpa using h0),
        o1 := fun h0 => φ.o1 (by simpa using h0),
        x0 := fun h0 => φ.x0 (by simpa using h0),
        x1 := fun h0 => φ.x1 (by simpa using h0),
        y0 := fun _ => φ.y0 rfl }, rfl⟩
    refine hG ?_
    clear hK φ hG
    revert hk
    go_simp
    first | done | exact fun h => h
  case q2 =>
    rintro L vs w' K ⟨u7, u8, u9, u10, u2, wz, rfl, φ, rfl⟩ hL hpre hcl hK G hG
    simp [Region.binds, closedFrom] at hpre hcl
    have e0 := φ.s0 (by simp [hpre])
    subst e0
    have e1 := φ.s1 (by simp [hpre])
    subst e1
    refine hG (step_call wz rfl 44 #[.tmp 7, .tmp 8] #[40, 77] rfl #[.slice (some ⟨g, 0, none⟩) n c, .func (.func 45) #[] #[.pointer (some ⟨T4, 0, none⟩)]] (by simp [Act.eval, Act.puts, Act.put]) (enters_of Try.func44 (by kernel_rfl) rfl) (deleteFunc_any 45 #[.pointer (some ⟨T4, 0, none⟩)] (fun x => decide (x = m)) (enters_of Try.func45 (by kernel_rfl) rfl) base (some ⟨g, 0, none⟩) c n l wz (φ.o0 hL) HN.out hn1 (fun W hgW => same_pred m T4 W ((φ.y0 rfl).grown (r := g) hgW (by omega)))) ?_)
    rintro e w9 ⟨k', rfl, hk', own', hg'⟩
    have ek : k' = k := hk'.symm.trans HK.out
    clear hk'
    subst k'
    have hgg : wz.grownBy w9 (some g) := hg'
    refine ⟨_, rfl, ?_⟩
    have hk := hK [(.slice (some ⟨g, 0, none⟩) n c), (.func (.func 45) #[] #[.pointer (some ⟨T4, 0, none⟩)]), (.slice (some ⟨g, 0, none⟩) k c), u10, u2] w9 ⟨_, _, _, _, _, w9, rfl,
      { b := φ.b.grown hgg,
        s0 := fun h0 => φ.s0 (by simpa using h0),
        s1 := fun h0 => φ.s1 (by simpa using h0),
        s2 := fun _ => rfl,
        s3 := fun h0 => φ.s3 (by simpa using h0),
        s4 := fun h0 => φ.s4 (by simpa using h0),
        o0 := fun h => by simp at h,
        o1 := fun _ => own',
        x0 := fun h => (φ.x0 (by simpa using h)).grown hgg (by omega),
        x1 := fun h => (φ.x1 (by simpa using h)).grown hgg (by omega),
        y0 := fun _ => (φ.y0 rfl).grown hgg (by omega) }, rfl⟩
    clear hK φ hG
    revert hk
    go_simp
    first | done | exact fun h => h
  case q3 =>
    rintro L vs w' K ⟨u7, u8, u9, u10, u2, wz, rfl, φ, rfl⟩ hL hpre hcl hK G hG
    simp [Region.binds, closedFrom] at hpre hcl
    have c0 := (φ.y0 rfl).cell 0 _ rfl
    have c1 := (φ.y0 rfl).cell 1 _ rfl
    have c2 := (φ.y0 rfl).cell 2 _ rfl
    have c3 := (φ.y0 rfl).cell 3 _ rfl
    have hk := hK [u7, u8, u9, (.agg #[.int .i64 m.addr, .int .i64 m.state, .int .u32 m.val_, .int .i64 m.used]), u2] wz ⟨_, _, _, _, _, wz, rfl,
      { b := φ.b,
        s0 := fun h0 => φ.s0 (by simpa using h0),
        s1 := fun h0 => φ.s1 (by simpa using h0),
        s2 := fun h0 => φ.s2 (by simpa using h0),
        s3 := fun _ => rfl,
        s4 := fun h0 => φ.s4 (by simpa using h0),
        o0 := fun h0 => φ.o0 (by simpa using h0),
        o1 := fun h0 => φ.o1 (by simpa using h0),
        x0 := fun h0 => φ.x0 (by simpa using h0),
        x1 := fun h0 => φ.x1 (by simpa using h0),
        y0 := fun _ => φ.y0 rfl }, rfl⟩
    refine hG ?_
    clear hK φ hG
    revert hk
    go_simp
    first | done | exact fun h => h
  case q4 =>
    rintro L vs w' K ⟨u7, u8, u9, u10, u2, wz, rfl, φ, rfl⟩ hL hpre hcl hK G hG
    simp [Region.binds, closedFrom] at hpre hcl
    have e2 := φ.s2 (by simp [hpre])
    subst e2
    have hk := hK [u7, u8, (.slice (some ⟨g, 0, none⟩) k c), u10, (.slice (some ⟨g, 0, none⟩) k c)] wz ⟨_, _, _, _, _, wz, rfl,
      { b := φ.b,
        s0 := fun h0 => φ.s0 (by simpa using h0),
        s1 := fun h0 => φ.s1 (by simpa using h0),
        s2 := fun h0 => φ.s2 (by simpa using h0),
        s3 := fun h0 => φ.s3 (by simpa using h0),
        s4 := fun _ => rfl,
        o0 := fun h0 => φ.o0 (by simpa using h0),
        o1 := fun h0 => φ.o1 (by simpa using h0),
        x0 := fun h0 => φ.x0 (by simpa using h0),
        x1 := fun h0 => φ.x1 (by simpa using h0),
        y0 := fun _ => φ.y0 rfl }, rfl⟩
    refine hG ?_
    clear hK φ hG
    revert hk
    go_simp
    first | done | exact fun h => h
  case q5 =>
    rintro L vs w' K ⟨u7, u8, u9, u10, u2, wz, rfl, φ, rfl⟩ hL hpre hcl hK G hG
    simp [Region.binds, closedFrom] at hpre hcl
    have e3 := φ.s3 (by simp [hpre])
    subst e3
    have X := φ.x0 hL
    have z0 := X.cell 0 _ rfl
    have z1 := X.cell 1 _ rfl
    have z2 := X.cell 2 _ rfl
    have z3 := X.cell 3 _ rfl
    have f0 := X.froz 0
    have f1 := X.froz 1
    have f2 := X.froz 2
    have f3 := X.froz 3
    have Y := φ.y0 rfl
    have hk := hK [u7, u8, u9, (.agg #[.int .i64 m.addr, .int .i64 m.state, .int .u32 m.val_, .int .i64 m.used]), u2] ((((wz.setCell ⟨T3, 0, none⟩ (.int .i64 m.addr)).setCell ⟨T3, 1, none⟩ (.int .i64 m.state)).setCell ⟨T3, 2, none⟩ (.int .u32 m.val_)).setCell ⟨T3, 3, none⟩ (.int .i64 m.used)) ⟨_, _, _, _, _, ((((wz.setCell ⟨T3, 0, none⟩ (.int .i64 m.addr)).setCell ⟨T3, 1, none⟩ (.int .i64 m.state)).setCell ⟨T3, 2, none⟩ (.int .u32 m.val_)).setCell ⟨T3, 3, none⟩ (.int .i64 m.used)), rfl,
      { b := (((φ.b.setx 0 _).setx 1 _).setx 2 _).setx 3 _,
        s0 := fun h0 => φ.s0 (by simpa using h0),
        s1 := fun h0 => φ.s1 (by simpa using h0),
        s2 := fun h0 => φ.s2 (by simpa using h0),
        s3 := fun h0 => φ.s3 (by simpa using h0),
        s4 := fun h0 => φ.s4 (by simpa using h0),
        o0 := fun h => (φ.o0 (by simpa using h)).kept (grown_set (j := 3) (grown_set (j := 2) (grown_set (j := 1) (grown_set (g := T3) (j := 0) (World.grownBy.refl wz _) _) _) _) _) (.inr (by simp [Value.ownBlock]; omega)),
        o1 := fun h => (φ.o1 (by simpa using h)).kept (grown_set (j := 3) (grown_set (j := 2) (grown_set (j := 1) (grown_set (g := T3) (j := 0) (World.grownBy.refl wz _) _) _) _) _) (.inr (by simp [Value.ownBlock]; omega)),
        x0 := fun h => by simp at h,
        x1 := fun _ => (((X.set 0 (.int .i64 m.addr) (by simp)).set 1 (.int .i64 m.state) (by simp)).set 2 (.int .u32 m.val_) (by simp)).set 3 (.int .i64 m.used) (by simp),
        y0 := fun _ => (((Y.far (Y := T3) (by omega) 0 _).far (Y := T3) (by omega) 1 _).far (Y := T3) (by omega) 2 _).far (Y := T3) (by omega) 3 _ }, rfl⟩
    refine hG ?_
    clear hK φ hG
    revert hk
    go_simp
    first | done | exact fun h => h
  case hend =>
    rintro vs w' ⟨u7, u8, u9, u10, u2, wz, rfl, φ, rfl⟩ G hG
    have e2 := φ.s2 rfl
    subst e2
    have e4 := φ.s4 rfl
    subst e4
    have O9 := φ.o1 rfl
    have X9 := φ.x1 rfl
    have T9 := φ.b
    clear φ
    have z0 := X9.cell 0 _ rfl
    have z1 := X9.cell 1 _ rfl
    have z2 := X9.cell 2 _ rfl
    have z3 := X9.cell 3 _ rfl
    refine hG ?_
    clear hG
    go_simp
    have G2 : w.grownBy (w1.alloc (.cells #[.int .i64 m.addr, .int .i64 m.state, .int .u32 m.val_, .int .i64 m.used] 32)).drew (some g) := by
      have h := grown_alloc G1 (.cells #[.int .i64 m.addr, .int .i64 m.state, .int .u32 m.val_, .int .i64 m.used] 32)
      exact ⟨h.os, h.tape, h.output, h.size, h.block⟩
    have G3 : w.grownBy wz (some g) := ⟨T9.os.trans G2.os, T9.tape.trans G2.tape, T9.output.trans G2.output, Nat.le_trans G2.size T9.size, fun j hj hne => (T9.block j (Nat.lt_of_lt_of_le hj G2.size) (by omega) (fun e => hne (by rw [e]))).trans (G2.block j hj hne)⟩
    clear G2 T9 G1
    go_wp2_with fail
    exact bodyPost_ret (v := .tuple #[.slice (some ⟨g, 0, none⟩) k c, .agg #[.int .i64 m.addr, .int .i64 m.state, .int .u32 m.val_, .int .i64 m.used]]) (by simp [results, Try.results27, go_sem, z0, z1, z2, z3]) rfl ⟨k, rfl, HK.out, O9, G3⟩
end Go.Proofs.Ytdndanjabknjpaa
