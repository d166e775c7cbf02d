/- The walk of the reference's Put: refused. -/
import Derived.Test.YtdndanjabknjpaaBH
namespace Go.Proofs.Ytdndanjabknjpaa
open Go.RowKit Go.Lib

set_option linter.unusedVariables false
attribute [local go_sem] Act.puts

def GivesY (w : World) (A : Option Addr) (ls : List (List Ln)) (hs : List Hd) (r : Ca × Ln × Int) (e : Ending) (w' : World) : Prop :=
  ∃ v, e = .returned (.tuple #[v, .agg #[.int .i64 r.2.1.addr, .int .i64 r.2.1.state, .int .u32 r.2.1.val_, .int .i64 r.2.1.used], .int .i64 r.2.2]) ∧ CRes w' (fun Y => Y < w.heap.size ∧ CFar Y A ls hs) r.1 v ∧ Below w.heap.size w w'
theorem own_line {w : World} {b n c g k : Nat} {l : List Ln} (h : w.ownsRow b 32 4 (.slice (some ⟨g, 0, none⟩) n c) n (l.flatMap Ln.enc)) (hk : k < l.length) (y : Ln) :
    ((((w.setCell ⟨g, k * 4, none⟩ (.int .i64 y.addr)).setCell ⟨g, k * 4 + 1, none⟩ (.int .i64 y.state)).setCell ⟨g, k * 4 + 2, none⟩ (.int .u32 y.val_)).setCell ⟨g, k * 4 + 3, none⟩ (.int .i64 y.used)).ownsRow b 32 4 (.slice (some ⟨g, 0, none⟩) n c) n ((l.set k y).flatMap Ln.enc) := by
  have h0 := own_set h (k * 4) (.int .i64 y.addr)
  have e0 := flat_set Ln.enc_len l k 0 ⟨y.addr, l[k]!.state, l[k]!.val_, l[k]!.used⟩ (.int .i64 y.addr) hk (by decide) rfl
  rw [Nat.add_zero] at e0
  rw [e0] at h0
  have g0 : ∀ q : Ln, (l.set k q)[k]! = q := fun q => by rw [getElem!_pos _ k (by rw [List.length_set]; exact hk), List.getElem_set_self]
  have lk : ∀ q : Ln, k < (l.set k q).length := fun q => by rw [List.length_set]; exact hk
  have h1 := own_set h0 (k * 4 + 1) (.int .i64 y.state)
  rw [flat_set Ln.enc_len _ k 1 ⟨y.addr, y.state, l[k]!.val_, l[k]!.used⟩ (.int .i64 y.state) (lk _) (by decide) (by rw [g0]; rfl), List.set_set] at h1
  have h2 := own_set h1 (k * 4 + 2) (.int .u32 y.val_)
  rw [flat_set Ln.enc_len _ k 2 ⟨y.addr, y.state, y.val_, l[k]!.used⟩ (.int .u32 y.val_) (lk _) (by decide) (by rw [g0]; rfl), List.set_set] at h2
  have h3 := own_set h2 (k * 4 + 3) (.int .i64 y.used)
  rw [flat_set Ln.enc_len _ k 3 y (.int .i64 y.used) (lk _) (by decide) (by rw [g0]; rfl), List.set_set] at h3
  exact h3
structure RpC (w0 : World) (CX bb off n c s m c2 : Nat) (B2 : Option Addr) (t : Int) (x : Ca) (l : List Ln) (L : Nat → Bool) (u38 u39 u40 u41 u42 u43 u44 u45 u46 u47 u12 : Value) (wz : World) : Prop where
  b : Below w0.heap.size w0 wz
  s0 : L 0 = true → L 9 = false → wz.ownsRow w0.heap.size 32 4 u38 0 []
  s1 : L 1 = true → u39 = .pointer (some ⟨CX, 3, none⟩)
  s2 : L 2 = true → u40 = .slice (some ⟨bb, off, none⟩) n c
  s3 : L 3 = true → u41 = .int .i64 t
  s4 : L 4 = true → u42 = .pointer (some ⟨CX, 0, none⟩)
  s5 : L 5 = true → u43 = .int .i64 x.sets
  s6 : L 6 = true → u44 = .int .i64 (s : Int)
  s7 : L 7 = true → u45 = .pointer (some ⟨bb, off + s, none⟩)
  s8 : L 8 = true → u46 = .slice B2 m c2
  s9 : L 9 = true → wz.ownsRow w0.heap.size 32 4 u47 m (l.flatMap Ln.enc)
  s10 : L 10 = true → u12 = u47
def RpCPhi (w0 : World) (CX bb off n c s m c2 : Nat) (B2 : Option Addr) (t : Int) (x : Ca) (l : List Ln) (L : Nat → Bool) (vs : List Value) (w' : World) : Prop :=
  ∃ u38 u39 u40 u41 u42 u43 u44 u45 u46 u47 u12 wz, vs = [u38, u39, u40, u41, u42, u43, u44, u45, u46, u47, u12] ∧ RpC w0 CX bb off n c s m c2 B2 t x l L u38 u39 u40 u41 u42 u43 u44 u45 u46 u47 u12 wz ∧ wz = w'
structure RpR (w0 : World) (base CX YX ZX OX bb off n c s g mm c3 pb : Nat) (t ck : Int) (x y : Ca) (z : Ln) (hs : List Hd) (L : Nat → Bool) (u106 u107 u108 u109 u110 u111 u112 u113 u10 : Value) (wz : World) : Prop where
  b : Below base w0 wz
  b0 : L 8 = false → Below w0.heap.size w0 wz
  s0 : L 0 = true → u106 = .agg #[.int .i64 x.sets, .int .i64 x.ways, .int .i64 ck, .slice (some ⟨bb, off, none⟩) n c]
  s1 : L 1 = true → u107 = .int .i64 t
  s2 : L 2 = true → u108 = .pointer (some ⟨CX, 0, none⟩)
  s3 : L 3 = true → u109 = .int .i64 x.sets
  s4 : L 4 = true → u110 = .int .i64 (s : Int)
  s5 : L 5 = true → u111 = .slice (some ⟨g, 0, none⟩) mm c3
  e6 : L 6 = true → L 8 = false → CRes wz (fun Y => Y < pb ∧ CFar Y (some ⟨bb, off, none⟩) x.lines hs) y u112
  s7 : L 7 = true → u113 = .agg #[.int .i64 z.addr, .int .i64 z.state, .int .u32 z.val_, .int .i64 z.used]
  q7 : Bx wz OX [.int .i64 z.addr, .int .i64 z.state, .int .u32 z.val_, .int .i64 z.used]
  o8 : L 8 = false → Bx wz YX [.int .i64 0, .int .i64 0, .int .i64 0, .slice none 0 0]
  r8 : L 8 = true → CVar wz (fun Y => Y < pb ∧ CFar Y (some ⟨bb, off, none⟩) x.lines hs) y YX
  o9 : L 9 = false → Bx wz ZX [.int .i64 0, .int .i64 0, .int .u32 0, .int .i64 0]
  r9 : L 9 = true → Bx wz ZX [.int .i64 z.addr, .int .i64 z.state, .int .u32 z.val_, .int .i64 z.used]
  s10 : L 10 = true → u10 = .int .i64 0
def RpRPhi (w0 : World) (base CX YX ZX OX bb off n c s g mm c3 pb : Nat) (t ck : Int) (x y : Ca) (z : Ln) (hs : List Hd) (L : Nat → Bool) (vs : List Value) (w' : World) : Prop :=
  ∃ u106 u107 u108 u109 u110 u111 u112 u113 u10 wz, vs = [u106, u107, u108, u109, u110, u111, u112, u113, u10] ∧ RpR w0 base CX YX ZX OX bb off n c s g mm c3 pb t ck x y z hs L u106 u107 u108 u109 u110 u111 u112 u113 u10 wz ∧ wz = w'

set_option maxHeartbeats 16000000 in
set_option maxRecDepth 100000 in
theorem rPut_bad (A : Option Addr) (c n : Nat) (x : Ca) (hs : List Hd) (t st v : Int) (w : World) (hc : CIn w A x.lines hs) (hn : x.lines.length = n) (hn1 : n ≤ 1000000) (hb : ∀ s, s < n → x.lines[s]!.length ≤ 1000000) (hbad : ¬ (mayC x t = true ∧ 1 ≤ st ∧ st ≤ 4)) :
    Calls Try.prog 20 #[.agg #[.int .i64 x.sets, .int .i64 x.ways, .int .i64 x.clock, .slice A n c], .int .i64 t, .int .i64 st, .int .u32 v] w (GivesY w A x.lines hs (putC x t st v)) := by
  have b0 : Below w.heap.size w (((w.alloc (.cells #[.int .i64 x.sets, .int .i64 x.ways, .int .i64 x.clock, .slice A n c] 26)).alloc (.cells #[.int .i64 0, .int .i64 0, .int .i64 0, .slice none 0 0] 26)).alloc (.cells #[.int .i64 0, .int .i64 0, .int .u32 0, .int .i64 0] 32)) := (((Below.refl _ _).alloc (Nat.le_refl _) _).alloc (by simp) _).alloc (by simp <;> omega) _
  have X := ((Bx.new w [.int .i64 x.sets, .int .i64 x.ways, .int .i64 x.clock, .slice A n c] 26).alloc (.cells #[.int .i64 0, .int .i64 0, .int .i64 0, .slice none 0 0] 26)).alloc (.cells #[.int .i64 0, .int .i64 0, .int .u32 0, .int .i64 0] 32)
  have Y := (Bx.new (w.alloc (.cells #[.int .i64 x.sets, .int .i64 x.ways, .int .i64 x.clock, .slice A n c] 26)) [.int .i64 0, .int .i64 0, .int .i64 0, .slice none 0 0] 26).alloc (.cells #[.int .i64 0, .int .i64 0, .int .u32 0, .int .i64 0] 32)
  have Z := Bx.new ((w.alloc (.cells #[.int .i64 x.sets, .int .i64 x.ways, .int .i64 x.clock, .slice A n c] 26)).alloc (.cells #[.int .i64 0, .int .i64 0, .int .i64 0, .slice none 0 0] 26)) [.int .i64 0, .int .i64 0, .int .u32 0, .int .i64 0] 32
  rw [show (w.alloc (.cells #[.int .i64 x.sets, .int .i64 x.ways, .int .i64 x.clock, .slice A n c] 26)).heap.size = w.heap.size + 1 by simp] at Y
  rw [show ((w.alloc (.cells #[.int .i64 x.sets, .int .i64 x.ways, .int .i64 x.clock, .slice A n c] 26)).alloc (.cells #[.int .i64 0, .int .i64 0, .int .i64 0, .slice none 0 0] 26)).heap.size = w.heap.size + 1 + 1 by simp] at Z
  have HC := Lib.hid (hc.below b0)
  have HFAR : CFar (w.heap.size + 1) A x.lines hs := hc.far (Nat.le_succ _)
  have HFAR2 : CFar (w.heap.size + 1 + 1) A x.lines hs := hc.far (by omega)
  have HC0 := Lib.hid hc
  have HN := Lib.hid hn
  have HB := Lib.hid hb
  have cR := fun w1 (h : CIn w1 A x.lines hs) => rRight_any A c n x hs w1 h hn
  clear hb hc
  have hL : putC x t st v = (x, zeroL, 1) := by unfold putC; rw [if_neg hbad]
  rw [hL]
  clear hL
  cases hr : rightC x with
  | false =>
    rw [hr] at cR
    clear hr hn hbad
    have x0 := X.cell 0 _ rfl
    have x1 := X.cell 1 _ rfl
    have x2 := X.cell 2 _ rfl
    have x3 := X.cell 3 _ rfl
    have y0 := Y.cell 0 _ rfl
    have f0 := Y.froz 0
    have y1 := Y.cell 1 _ rfl
    have f1 := Y.froz 1
    have y2 := Y.cell 2 _ rfl
    have f2 := Y.froz 2
    have y3 := Y.cell 3 _ rfl
    have f3 := Y.froz 3
    have k0 := Z.cell 0 _ rfl
    have h0 := Z.froz 0
    have k1 := Z.cell 1 _ rfl
    have h1 := Z.froz 1
    have k2 := Z.cell 2 _ rfl
    have h2 := Z.froz 2
    have k3 := Z.cell 3 _ rfl
    have h3 := Z.froz 3
    go_enter Try.func20, Try.ntmps20
    go_wp2_with fail
    generalize (((w.alloc (.cells #[.int .i64 x.sets, .int .i64 x.ways, .int .i64 x.clock, .slice A n c] 26)).alloc (.cells #[.int .i64 0, .int .i64 0, .int .i64 0, .slice none 0 0] 26)).alloc (.cells #[.int .i64 0, .int .i64 0, .int .u32 0, .int .i64 0] 32)) = W0 at *
    refine (cR _ HC.out).mono ?_
    rintro e w1 ⟨rfl, hb1⟩
    replace X := X.below hb1
    replace Y := Y.below hb1
    replace Z := Z.below hb1
    have b1 := b0.trans (hb1.mono b0.size)
    have HC1 := HC.out.below hb1
    clear x0 x1 x2 x3 y0 y1 y2 y3 f0 f1 f2 f3 k0 k1 k2 k3 h0 h1 h2 h3 cR hb1
    generalize hCX : w.heap.size = CX at X Y Z HFAR HFAR2 ⊢
    generalize hYX : CX + 1 = YX at X Y Z HFAR HFAR2 ⊢
    generalize hZX : YX + 1 = ZX at X Y Z HFAR HFAR2 ⊢
    have x0 := X.cell 0 _ rfl
    have x1 := X.cell 1 _ rfl
    have x2 := X.cell 2 _ rfl
    have x3 := X.cell 3 _ rfl
    have y0 := Y.cell 0 _ rfl
    have f0 := Y.froz 0
    have y1 := Y.cell 1 _ rfl
    have f1 := Y.froz 1
    have y2 := Y.cell 2 _ rfl
    have f2 := Y.froz 2
    have y3 := Y.cell 3 _ rfl
    have f3 := Y.froz 3
    have k0 := Z.cell 0 _ rfl
    have h0 := Z.froz 0
    have k1 := Z.cell 1 _ rfl
    have h1 := Z.froz 1
    have k2 := Z.cell 2 _ rfl
    have h2 := Z.froz 2
    have k3 := Z.cell 3 _ rfl
    have h3 := Z.froz 3
    go_wp2_with fail
    have bF := ((((((((b1.setCell (p := ⟨YX, 0, none⟩) (by show w.heap.size ≤ YX; omega) (.int .i64 x.sets)).setCell (p := ⟨YX, 1, none⟩) (by show w.heap.size ≤ YX; omega) (.int .i64 x.ways)).setCell (p := ⟨YX, 2, none⟩) (by show w.heap.size ≤ YX; omega) (.int .i64 x.clock)).setCell (p := ⟨YX, 3, none⟩) (by show w.heap.size ≤ YX; omega) (.slice A n c)).setCell (p := ⟨ZX, 0, none⟩) (by show w.heap.size ≤ ZX; omega) (.int .i64 0)).setCell (p := ⟨ZX, 1, none⟩) (by show w.heap.size ≤ ZX; omega) (.int .i64 0)).setCell (p := ⟨ZX, 2, none⟩) (by show w.heap.size ≤ ZX; omega) (.int .u32 0)).setCell (p := ⟨ZX, 3, none⟩) (by show w.heap.size ≤ ZX; omega) (.int .i64 0))
    have cF := ((((((((HC1.setFar HFAR 0 (.int .i64 x.sets)).setFar HFAR 1 (.int .i64 x.ways)).setFar HFAR 2 (.int .i64 x.clock)).setFar HFAR 3 (.slice A n c)).setFar HFAR2 0 (.int .i64 0)).setFar HFAR2 1 (.int .i64 0)).setFar HFAR2 2 (.int .u32 0)).setFar HFAR2 3 (.int .i64 0))
    have nyz : YX ≠ ZX := by omega
    have nzy := nyz.symm
    try go_wp2_with fail
    exact bodyPost_ret (v := .tuple #[.agg #[.int .i64 x.sets, .int .i64 x.ways, .int .i64 x.clock, .slice A n c], .agg #[.int .i64 zeroL.addr, .int .i64 zeroL.state, .int .u32 zeroL.val_, .int .i64 zeroL.used], .int .i64 1]) (by simp [results, Try.results20, go_sem, y0, y1, y2, y3, x0, x1, x2, x3, k0, k1, k2, k3, nyz, nzy, zeroL]) rfl ⟨_, rfl, ⟨A, c, hs, by rw [HN.out], cF, fun Y hY => hY.2⟩, bF⟩
  | true =>
    have hm : mayC x t = true ↔ (0 ≤ t ∧ x.clock < 1099511627776) := by unfold mayC; rw [hr]; simp
    rw [hm] at hbad
    rw [hr] at cR
    clear hr hm
    by_cases c0 : t < 0
    · have q0 : decide (t < 0) = true := decide_eq_true c0
      clear hn hbad
      have x0 := X.cell 0 _ rfl
      have x1 := X.cell 1 _ rfl
      have x2 := X.cell 2 _ rfl
      have x3 := X.cell 3 _ rfl
      have y0 := Y.cell 0 _ rfl
      have f0 := Y.froz 0
      have y1 := Y.cell 1 _ rfl
      have f1 := Y.froz 1
      have y2 := Y.cell 2 _ rfl
      have f2 := Y.froz 2
      have y3 := Y.cell 3 _ rfl
      have f3 := Y.froz 3
      have k0 := Z.cell 0 _ rfl
      have h0 := Z.froz 0
      have k1 := Z.cell 1 _ rfl
      have h1 := Z.froz 1
      have k2 := Z.cell 2 _ rfl
      have h2 := Z.froz 2
      have k3 := Z.cell 3 _ rfl
      have h3 := Z.froz 3
      go_enter Try.func20, Try.ntmps20
      go_wp2_with fail
      generalize (((w.alloc (.cells #[.int .i64 x.sets, .int .i64 x.ways, .int .i64 x.clock, .slice A n c] 26)).alloc (.cells #[.int .i64 0, .int .i64 0, .int .i64 0, .slice none 0 0] 26)).alloc (.cells #[.int .i64 0, .int .i64 0, .int .u32 0, .int .i64 0] 32)) = W0 at *
      refine (cR _ HC.out).mono ?_
      rintro e w1 ⟨rfl, hb1⟩
      replace X := X.below hb1
      replace Y := Y.below hb1
      replace Z := Z.below hb1
      have b1 := b0.trans (hb1.mono b0.size)
      have HC1 := HC.out.below hb1
      clear x0 x1 x2 x3 y0 y1 y2 y3 f0 f1 f2 f3 k0 k1 k2 k3 h0 h1 h2 h3 cR hb1
      generalize hCX : w.heap.size = CX at X Y Z HFAR HFAR2 ⊢
      generalize hYX : CX + 1 = YX at X Y Z HFAR HFAR2 ⊢
      generalize hZX : YX + 1 = ZX at X Y Z HFAR HFAR2 ⊢
      have x0 := X.cell 0 _ rfl
      have x1 := X.cell 1 _ rfl
      have x2 := X.cell 2 _ rfl
      have x3 := X.cell 3 _ rfl
      have y0 := Y.cell 0 _ rfl
      have f0 := Y.froz 0
      have y1 := Y.cell 1 _ rfl
      have f1 := Y.froz 1
      have y2 := Y.cell 2 _ rfl
      have f2 := Y.froz 2
      have y3 := Y.cell 3 _ rfl
      have f3 := Y.froz 3
      have k0 := Z.cell 0 _ rfl
      have h0 := Z.froz 0
      have k1 := Z.cell 1 _ rfl
      have h1 := Z.froz 1
      have k2 := Z.cell 2 _ rfl
      have h2 := Z.froz 2
      have k3 := Z.cell 3 _ rfl
      have h3 := Z.froz 3
      go_wp2_with fail
      have bF := ((((((((b1.setCell (p := ⟨YX, 0, none⟩) (by show w.heap.size ≤ YX; omega) (.int .i64 x.sets)).setCell (p := ⟨YX, 1, none⟩) (by show w.heap.size ≤ YX; omega) (.int .i64 x.ways)).setCell (p := ⟨YX, 2, none⟩) (by show w.heap.size ≤ YX; omega) (.int .i64 x.clock)).setCell (p := ⟨YX, 3, none⟩) (by show w.heap.size ≤ YX; omega) (.slice A n c)).setCell (p := ⟨ZX, 0, none⟩) (by show w.heap.size ≤ ZX; omega) (.int .i64 0)).setCell (p := ⟨ZX, 1, none⟩) (by show w.heap.size ≤ ZX; omega) (.int .i64 0)).setCell (p := ⟨ZX, 2, none⟩) (by show w.heap.size ≤ ZX; omega) (.int .u32 0)).setCell (p := ⟨ZX, 3, none⟩) (by show w.heap.size ≤ ZX; omega) (.int .i64 0))
      have cF := ((((((((HC1.setFar HFAR 0 (.int .i64 x.sets)).setFar HFAR 1 (.int .i64 x.ways)).setFar HFAR 2 (.int .i64 x.clock)).setFar HFAR 3 (.slice A n c)).setFar HFAR2 0 (.int .i64 0)).setFar HFAR2 1 (.int .i64 0)).setFar HFAR2 2 (.int .u32 0)).setFar HFAR2 3 (.int .i64 0))
      have nyz : YX ≠ ZX := by omega
      have nzy := nyz.symm
      try go_wp2_with fail
      exact bodyPost_ret (v := .tuple #[.agg #[.int .i64 x.sets, .int .i64 x.ways, .int .i64 x.clock, .slice A n c], .agg #[.int .i64 zeroL.addr, .int .i64 zeroL.state, .int .u32 zeroL.val_, .int .i64 zeroL.used], .int .i64 1]) (by simp [results, Try.results20, go_sem, y0, y1, y2, y3, x0, x1, x2, x3, k0, k1, k2, k3, nyz, nzy, zeroL]) rfl ⟨_, rfl, ⟨A, c, hs, by rw [HN.out], cF, fun Y hY => hY.2⟩, bF⟩
    · have q0 : decide (t < 0) = false := decide_eq_false c0
      by_cases c1 : 1099511627776 ≤ x.clock
      · have q1 : decide (1099511627776 ≤ x.clock) = true := decide_eq_true c1
        clear hn hbad
        have x0 := X.cell 0 _ rfl
        have x1 := X.cell 1 _ rfl
        have x2 := X.cell 2 _ rfl
        have x3 := X.cell 3 _ rfl
        have y0 := Y.cell 0 _ rfl
        have f0 := Y.froz 0
        have y1 := Y.cell 1 _ rfl
        have f1 := Y.froz 1
        have y2 := Y.cell 2 _ rfl
        have f2 := Y.froz 2
        have y3 := Y.cell 3 _ rfl
        have f3 := Y.froz 3
        have k0 := Z.cell 0 _ rfl
        have h0 := Z.froz 0
        have k1 := Z.cell 1 _ rfl
        have h1 := Z.froz 1
        have k2 := Z.cell 2 _ rfl
        have h2 := Z.froz 2
        have k3 := Z.cell 3 _ rfl
        have h3 := Z.froz 3
        go_enter Try.func20, Try.ntmps20
        go_wp2_with fail
        generalize (((w.alloc (.cells #[.int .i64 x.sets, .int .i64 x.ways, .int .i64 x.clock, .slice A n c] 26)).alloc (.cells #[.int .i64 0, .int .i64 0, .int .i64 0, .slice none 0 0] 26)).alloc (.cells #[.int .i64 0, .int .i64 0, .int .u32 0, .int .i64 0] 32)) = W0 at *
        refine (cR _ HC.out).mono ?_
        rintro e w1 ⟨rfl, hb1⟩
        replace X := X.below hb1
        replace Y := Y.below hb1
        replace Z := Z.below hb1
        have b1 := b0.trans (hb1.mono b0.size)
        have HC1 := HC.out.below hb1
        clear x0 x1 x2 x3 y0 y1 y2 y3 f0 f1 f2 f3 k0 k1 k2 k3 h0 h1 h2 h3 cR hb1
        generalize hCX : w.heap.size = CX at X Y Z HFAR HFAR2 ⊢
        generalize hYX : CX + 1 = YX at X Y Z HFAR HFAR2 ⊢
        generalize hZX : YX + 1 = ZX at X Y Z HFAR HFAR2 ⊢
        have x0 := X.cell 0 _ rfl
        have x1 := X.cell 1 _ rfl
        have x2 := X.cell 2 _ rfl
        have x3 := X.cell 3 _ rfl
        have y0 := Y.cell 0 _ rfl
        have f0 := Y.froz 0
        have y1 := Y.cell 1 _ rfl
        have f1 := Y.froz 1
        have y2 := Y.cell 2 _ rfl
        have f2 := Y.froz 2
        have y3 := Y.cell 3 _ rfl
        have f3 := Y.froz 3
        have k0 := Z.cell 0 _ rfl
        have h0 := Z.froz 0
        have k1 := Z.cell 1 _ rfl
        have h1 := Z.froz 1
        have k2 := Z.cell 2 _ rfl
        have h2 := Z.froz 2
        have k3 := Z.cell 3 _ rfl
        have h3 := Z.froz 3
        go_wp2_with fail
        have bF := ((((((((b1.setCell (p := ⟨YX, 0, none⟩) (by show w.heap.size ≤ YX; omega) (.int .i64 x.sets)).setCell (p := ⟨YX, 1, none⟩) (by show w.heap.size ≤ YX; omega) (.int .i64 x.ways)).setCell (p := ⟨YX, 2, none⟩) (by show w.heap.size ≤ YX; omega) (.int .i64 x.clock)).setCell (p := ⟨YX, 3, none⟩) (by show w.heap.size ≤ YX; omega) (.slice A n c)).setCell (p := ⟨ZX, 0, none⟩) (by show w.heap.size ≤ ZX; omega) (.int .i64 0)).setCell (p := ⟨ZX, 1, none⟩) (by show w.heap.size ≤ ZX; omega) (.int .i64 0)).setCell (p := ⟨ZX, 2, none⟩) (by show w.heap.size ≤ ZX; omega) (.int .u32 0)).setCell (p := ⟨ZX, 3, none⟩) (by show w.heap.size ≤ ZX; omega) (.int .i64 0))
        have cF := ((((((((HC1.setFar HFAR 0 (.int .i64 x.sets)).setFar HFAR 1 (.int .i64 x.ways)).setFar HFAR 2 (.int .i64 x.clock)).setFar HFAR 3 (.slice A n c)).setFar HFAR2 0 (.int .i64 0)).setFar HFAR2 1 (.int .i64 0)).setFar HFAR2 2 (.int .u32 0)).setFar HFAR2 3 (.int .i64 0))
        have nyz : YX ≠ ZX := by omega
        have nzy := nyz.symm
        try go_wp2_with fail
        exact bodyPost_ret (v := .tuple #[.agg #[.int .i64 x.sets, .int .i64 x.ways, .int .i64 x.clock, .slice A n c], .agg #[.int .i64 zeroL.addr, .int .i64 zeroL.state, .int .u32 zeroL.val_, .int .i64 zeroL.used], .int .i64 1]) (by simp [results, Try.results20, go_sem, y0, y1, y2, y3, x0, x1, x2, x3, k0, k1, k2, k3, nyz, nzy, zeroL]) rfl ⟨_, rfl, ⟨A, c, hs, by rw [HN.out], cF, fun Y hY => hY.2⟩, bF⟩
      · have q1 : decide (1099511627776 ≤ x.clock) = false := decide_eq_false c1
        by_cases c2 : st < 1
        · have q2 : decide (st < 1) = true := decide_eq_true c2
          clear hn hbad
          have x0 := X.cell 0 _ rfl
          have x1 := X.cell 1 _ rfl
          have x2 := X.cell 2 _ rfl
          have x3 := X.cell 3 _ rfl
          have y0 := Y.cell 0 _ rfl
          have f0 := Y.froz 0
          have y1 := Y.cell 1 _ rfl
          have f1 := Y.froz 1
          have y2 := Y.cell 2 _ rfl
          have f2 := Y.froz 2
          have y3 := Y.cell 3 _ rfl
          have f3 := Y.froz 3
          have k0 := Z.cell 0 _ rfl
          have h0 := Z.froz 0
          have k1 := Z.cell 1 _ rfl
          have h1 := Z.froz 1
          have k2 := Z.cell 2 _ rfl
          have h2 := Z.froz 2
          have k3 := Z.cell 3 _ rfl
          have h3 := Z.froz 3
          go_enter Try.func20, Try.ntmps20
          go_wp2_with fail
          generalize (((w.alloc (.cells #[.int .i64 x.sets, .int .i64 x.ways, .int .i64 x.clock, .slice A n c] 26)).alloc (.cells #[.int .i64 0, .int .i64 0, .int .i64 0, .slice none 0 0] 26)).alloc (.cells #[.int .i64 0, .int .i64 0, .int .u32 0, .int .i64 0] 32)) = W0 at *
          refine (cR _ HC.out).mono ?_
          rintro e w1 ⟨rfl, hb1⟩
          replace X := X.below hb1
          replace Y := Y.below hb1
          replace Z := Z.below hb1
          have b1 := b0.trans (hb1.mono b0.size)
          have HC1 := HC.out.below hb1
          clear x0 x1 x2 x3 y0 y1 y2 y3 f0 f1 f2 f3 k0 k1 k2 k3 h0 h1 h2 h3 cR hb1
          generalize hCX : w.heap.size = CX at X Y Z HFAR HFAR2 ⊢
          generalize hYX : CX + 1 = YX at X Y Z HFAR HFAR2 ⊢
          generalize hZX : YX + 1 = ZX at X Y Z HFAR HFAR2 ⊢
          have x0 := X.cell 0 _ rfl
          have x1 := X.cell 1 _ rfl
          have x2 := X.cell 2 _ rfl
          have x3 := X.cell 3 _ rfl
          have y0 := Y.cell 0 _ rfl
          have f0 := Y.froz 0
          have y1 := Y.cell 1 _ rfl
          have f1 := Y.froz 1
          have y2 := Y.cell 2 _ rfl
          have f2 := Y.froz 2
          have y3 := Y.cell 3 _ rfl
          have f3 := Y.froz 3
          have k0 := Z.cell 0 _ rfl
          have h0 := Z.froz 0
          have k1 := Z.cell 1 _ rfl
          have h1 := Z.froz 1
          have k2 := Z.cell 2 _ rfl
          have h2 := Z.froz 2
          have k3 := Z.cell 3 _ rfl
          have h3 := Z.froz 3
          go_wp2_with fail
          have bF := ((((((((b1.setCell (p := ⟨YX, 0, none⟩) (by show w.heap.size ≤ YX; omega) (.int .i64 x.sets)).setCell (p := ⟨YX, 1, none⟩) (by show w.heap.size ≤ YX; omega) (.int .i64 x.ways)).setCell (p := ⟨YX, 2, none⟩) (by show w.heap.size ≤ YX; omega) (.int .i64 x.clock)).setCell (p := ⟨YX, 3, none⟩) (by show w.heap.size ≤ YX; omega) (.slice A n c)).setCell (p := ⟨ZX, 0, none⟩) (by show w.heap.size ≤ ZX; omega) (.int .i64 0)).setCell (p := ⟨ZX, 1, none⟩) (by show w.heap.size ≤ ZX; omega) (.int .i64 0)).setCell (p := ⟨ZX, 2, none⟩) (by show w.heap.size ≤ ZX; omega) (.int .u32 0)).setCell (p := ⟨ZX, 3, none⟩) (by show w.heap.size ≤ ZX; omega) (.int .i64 0))
          have cF := ((((((((HC1.setFar HFAR 0 (.int .i64 x.sets)).setFar HFAR 1 (.int .i64 x.ways)).setFar HFAR 2 (.int .i64 x.clock)).setFar HFAR 3 (.slice A n c)).setFar HFAR2 0 (.int .i64 0)).setFar HFAR2 1 (.int .i64 0)).setFar HFAR2 2 (.int .u32 0)).setFar HFAR2 3 (.int .i64 0))
          have nyz : YX ≠ ZX := by omega
          have nzy := nyz.symm
          try go_wp2_with fail
          exact bodyPost_ret (v := .tuple #[.agg #[.int .i64 x.sets, .int .i64 x.ways, .int .i64 x.clock, .slice A n c], .agg #[.int .i64 zeroL.addr, .int .i64 zeroL.state, .int .u32 zeroL.val_, .int .i64 zeroL.used], .int .i64 1]) (by simp [results, Try.results20, go_sem, y0, y1, y2, y3, x0, x1, x2, x3, k0, k1, k2, k3, nyz, nzy, zeroL]) rfl ⟨_, rfl, ⟨A, c, hs, by rw [HN.out], cF, fun Y hY => hY.2⟩, bF⟩
        · have q2 : decide (st < 1) = false := decide_eq_false c2
          by_cases c3 : 4 < st
          · have q3 : decide (4 < st) = true := decide_eq_true c3
            clear hn hbad
            have x0 := X.cell 0 _ rfl
            have x1 := X.cell 1 _ rfl
            have x2 := X.cell 2 _ rfl
            have x3 := X.cell 3 _ rfl
            have y0 := Y.cell 0 _ rfl
            have f0 := Y.froz 0
            have y1 := Y.cell 1 _ rfl
            have f1 := Y.froz 1
            have y2 := Y.cell 2 _ rfl
            have f2 := Y.froz 2
            have y3 := Y.cell 3 _ rfl
            have f3 := Y.froz 3
            have k0 := Z.cell 0 _ rfl
            have h0 := Z.froz 0
            have k1 := Z.cell 1 _ rfl
            have h1 := Z.froz 1
            have k2 := Z.cell 2 _ rfl
            have h2 := Z.froz 2
            have k3 := Z.cell 3 _ rfl
            have h3 := Z.froz 3
            go_enter Try.func20, Try.ntmps20
            go_wp2_with fail
            generalize (((w.alloc (.cells #[.int .i64 x.sets, .int .i64 x.ways, .int .i64 x.clock, .slice A n c] 26)).alloc (.cells #[.int .i64 0, .int .i64 0, .int .i64 0, .slice none 0 0] 26)).alloc (.cells #[.int .i64 0, .int .i64 0, .int .u32 0, .int .i64 0] 32)) = W0 at *
            refine (cR _ HC.out).mono ?_
            rintro e w1 ⟨rfl, hb1⟩
            replace X := X.below hb1
            replace Y := Y.below hb1
            replace Z := Z.below hb1
            have b1 := b0.trans (hb1.mono b0.size)
            have HC1 := HC.out.below hb1
            clear x0 x1 x2 x3 y0 y1 y2 y3 f0 f1 f2 f3 k0 k1 k2 k3 h0 h1 h2 h3 cR hb1
            generalize hCX : w.heap.size = CX at X Y Z HFAR HFAR2 ⊢
            generalize hYX : CX + 1 = YX at X Y Z HFAR HFAR2 ⊢
            generalize hZX : YX + 1 = ZX at X Y Z HFAR HFAR2 ⊢
            have x0 := X.cell 0 _ rfl
            have x1 := X.cell 1 _ rfl
            have x2 := X.cell 2 _ rfl
            have x3 := X.cell 3 _ rfl
            have y0 := Y.cell 0 _ rfl
            have f0 := Y.froz 0
            have y1 := Y.cell 1 _ rfl
            have f1 := Y.froz 1
            have y2 := Y.cell 2 _ rfl
            have f2 := Y.froz 2
            have y3 := Y.cell 3 _ rfl
            have f3 := Y.froz 3
            have k0 := Z.cell 0 _ rfl
            have h0 := Z.froz 0
            have k1 := Z.cell 1 _ rfl
            have h1 := Z.froz 1
            have k2 := Z.cell 2 _ rfl
            have h2 := Z.froz 2
            have k3 := Z.cell 3 _ rfl
            have h3 := Z.froz 3
            go_wp2_with fail
            have bF := ((((((((b1.setCell (p := ⟨YX, 0, none⟩) (by show w.heap.size ≤ YX; omega) (.int .i64 x.sets)).setCell (p := ⟨YX, 1, none⟩) (by show w.heap.size ≤ YX; omega) (.int .i64 x.ways)).setCell (p := ⟨YX, 2, none⟩) (by show w.heap.size ≤ YX; omega) (.int .i64 x.clock)).setCell (p := ⟨YX, 3, none⟩) (by show w.heap.size ≤ YX; omega) (.slice A n c)).setCell (p := ⟨ZX, 0, none⟩) (by show w.heap.size ≤ ZX; omega) (.int .i64 0)).setCell (p := ⟨ZX, 1, none⟩) (by show w.heap.size ≤ ZX; omega) (.int .i64 0)).setCell (p := ⟨ZX, 2, none⟩) (by show w.heap.size ≤ ZX; omega) (.int .u32 0)).setCell (p := ⟨ZX, 3, none⟩) (by show w.heap.size ≤ ZX; omega) (.int .i64 0))
            have cF := ((((((((HC1.setFar HFAR 0 (.int .i64 x.sets)).setFar HFAR 1 (.int .i64 x.ways)).setFar HFAR 2 (.int .i64 x.clock)).setFar HFAR 3 (.slice A n c)).setFar HFAR2 0 (.int .i64 0)).setFar HFAR2 1 (.int .i64 0)).setFar HFAR2 2 (.int .u32 0)).setFar HFAR2 3 (.int .i64 0))
            have nyz : YX ≠ ZX := by omega
            have nzy := nyz.symm
            try go_wp2_with fail
            exact bodyPost_ret (v := .tuple #[.agg #[.int .i64 x.sets, .int .i64 x.ways, .int .i64 x.clock, .slice A n c], .agg #[.int .i64 zeroL.addr, .int .i64 zeroL.state, .int .u32 zeroL.val_, .int .i64 zeroL.used], .int .i64 1]) (by simp [results, Try.results20, go_sem, y0, y1, y2, y3, x0, x1, x2, x3, k0, k1, k2, k3, nyz, nzy, zeroL]) rfl ⟨_, rfl, ⟨A, c, hs, by rw [HN.out], cF, fun Y hY => hY.2⟩, bF⟩
          · have q3 : decide (4 < st) = false := decide_eq_false c3
            exact absurd ⟨⟨by omega, by omega⟩, by omega, by omega⟩ hbad
end Go.Proofs.Ytdndanjabknjpaa
