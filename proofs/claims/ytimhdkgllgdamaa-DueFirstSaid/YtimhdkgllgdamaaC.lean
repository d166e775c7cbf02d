/- The walk of due.Right. -/
import Derived.Test.YtimhdkgllgdamaaB
import Derived.Test.YtimhdkgllgdamaaRg
namespace Go.Proofs.Ytimhdkgllgdamaa
open Go.RowKit Go.Lib

set_option linter.unusedVariables false
def okD (l : List Du) (j : Nat) : Prop := mayD l[j]! = true ∧ (∀ i, i < j → l[i]!.which ≠ l[j]!.which) ∧ (0 < j → lessD l[j - 1]! l[j]! = true)
attribute [local go_sem] Act.puts

theorem ite_wanted {c : Bool} {A B : Prop} (h : c = true) (hA : A) : if c = true then A else B := by rw [if_pos h]; exact hA
theorem ite_unwanted {c : Bool} {A B : Prop} (h : c = false) (hB : B) : if c = true then A else B := by rw [if_neg (by rw [h]; decide)]; exact hB
/-- A call of a Go function, by its contract, as one step of a guarded region. -/
theorem step_callg {P : Program} {ops : Array Oper} {Q : Exit → Act → World → Prop} {o : Oper} {a : Act} {K : Act → World → Prop} {E G : Prop} {w : World} (hG : (if Region.wanted o (yielded ops a.tmps) = true then Oper.wp P o a w K Q else E) → G) (_ : World) (hw : Region.wanted o (yielded ops a.tmps) = true) (f : Nat) (xs : Array Operand) (ts : Array TypeId)
    (ho : o.op = .call { callee := .value (.func f), args := xs, argTypes := ts }) (args : Array Value) (ha : xs.map a.eval = args) (eg : ∀ args w, (callFunc f args).run P w = .ok (.enter f args) w)
    {Post : Ending → World → Prop} (hc : Calls P f args w Post) (h : ∀ e w', Post e w' → ∃ v, e = .returned v ∧ K (a.put o.dst v) w') :
    G := by
  refine hG ?_
  rw [if_pos hw]
  have hr : (execOp a.eval o).run P w = .ok (.enter f args) w := by
    unfold execOp
    simp [ho, resolve, ha, Act.eval, Deferred.ofValue, invoke, eg]
  unfold Oper.wp
  rw [hr]
  refine hc.mono fun e w' hp => ?_
  obtain ⟨v, rfl, hk⟩ := h e w' hp
  exact hk
structure RtBad (w0 : World) (M X5 bb off n c kk k1 : Nat) (x y : Du) (L : Nat → Bool) (u14 u15 u16 u17 u18 u19 u20 u21 u22 u23 u24 u25 u26 u27 u28 u29 u30 u31 u32 u33 u34 u35 u36 : Value) (wz : World) : Prop where
  b : Below w0.heap.size w0 wz
  s0 : L 0 = true → u14 = .agg #[.int .i64 x.when_, .int .i64 x.which]
  s1 : L 1 = true → u15 = .bool false
  s2 : L 2 = true → u16 = .bool true
  s3 : L 3 = true → u17 = .bool true
  s4 : L 4 = true → u18 = undef
  s5 : L 5 = true → u19 = undef
  s6 : L 6 = true → u20 = undef
  s7 : L 7 = true → u21 = undef
  s8 : L 8 = true → u22 = .bool true
  s9 : L 9 = true → u23 = .bool true
  s10 : L 10 = true → u24 = undef
  s11 : L 11 = true → u25 = undef
  s12 : L 12 = true → u26 = undef
  s13 : L 13 = true → u27 = undef
  s14 : L 14 = true → u28 = undef
  s15 : L 15 = true → u29 = undef
  s16 : L 16 = true → u30 = undef
  s17 : L 17 = true → u31 = undef
  s18 : L 18 = true → u32 = undef
  s19 : L 19 = true → u33 = undef
  s20 : L 20 = true → u34 = undef
  s21 : L 21 = true → u35 = undef
  s22 : L 22 = true → u36 = .bool true
def RtBadPhi (w0 : World) (M X5 bb off n c kk k1 : Nat) (x y : Du) (L : Nat → Bool) (vs : List Value) (w' : World) : Prop :=
  ∃ u14 u15 u16 u17 u18 u19 u20 u21 u22 u23 u24 u25 u26 u27 u28 u29 u30 u31 u32 u33 u34 u35 u36 wz, vs = [u14, u15, u16, u17, u18, u19, u20, u21, u22, u23, u24, u25, u26, u27, u28, u29, u30, u31, u32, u33, u34, u35, u36] ∧ RtBad w0 M X5 bb off n c kk k1 x y L u14 u15 u16 u17 u18 u19 u20 u21 u22 u23 u24 u25 u26 u27 u28 u29 u30 u31 u32 u33 u34 u35 u36 wz ∧ wz = w'
structure RtSeen (w0 : World) (M X5 bb off n c kk k1 : Nat) (x y : Du) (L : Nat → Bool) (u14 u15 u16 u17 u18 u19 u20 u21 u22 u23 u24 u25 u26 u27 u28 u29 u30 u31 u32 u33 u34 u35 u36 : Value) (wz : World) : Prop where
  b : Below w0.heap.size w0 wz
  s0 : L 0 = true → u14 = .agg #[.int .i64 x.when_, .int .i64 x.which]
  s1 : L 1 = true → u15 = .bool true
  s2 : L 2 = true → u16 = .bool false
  s3 : L 3 = true → u17 = .bool false
  s4 : L 4 = true → u18 = .map (some M)
  s5 : L 5 = true → u19 = .pointer (some ⟨X5, 1, none⟩)
  s6 : L 6 = true → u20 = .int .i64 x.which
  s7 : L 7 = true → u21 = .bool true
  s8 : L 8 = true → u22 = .bool true
  s9 : L 9 = true → u23 = .bool true
  s10 : L 10 = true → u24 = undef
  s11 : L 11 = true → u25 = undef
  s12 : L 12 = true → u26 = undef
  s13 : L 13 = true → u27 = undef
  s14 : L 14 = true → u28 = undef
  s15 : L 15 = true → u29 = undef
  s16 : L 16 = true → u30 = undef
  s17 : L 17 = true → u31 = undef
  s18 : L 18 = true → u32 = undef
  s19 : L 19 = true → u33 = undef
  s20 : L 20 = true → u34 = undef
  s21 : L 21 = true → u35 = undef
  s22 : L 22 = true → u36 = .bool true
def RtSeenPhi (w0 : World) (M X5 bb off n c kk k1 : Nat) (x y : Du) (L : Nat → Bool) (vs : List Value) (w' : World) : Prop :=
  ∃ u14 u15 u16 u17 u18 u19 u20 u21 u22 u23 u24 u25 u26 u27 u28 u29 u30 u31 u32 u33 u34 u35 u36 wz, vs = [u14, u15, u16, u17, u18, u19, u20, u21, u22, u23, u24, u25, u26, u27, u28, u29, u30, u31, u32, u33, u34, u35, u36] ∧ RtSeen w0 M X5 bb off n c kk k1 x y L u14 u15 u16 u17 u18 u19 u20 u21 u22 u23 u24 u25 u26 u27 u28 u29 u30 u31 u32 u33 u34 u35 u36 wz ∧ wz = w'
structure RtFirst (w0 : World) (M X5 bb off n c kk k1 : Nat) (x y : Du) (L : Nat → Bool) (u14 u15 u16 u17 u18 u19 u20 u21 u22 u23 u24 u25 u26 u27 u28 u29 u30 u31 u32 u33 u34 u35 u36 : Value) (wz : World) : Prop where
  b : Below w0.heap.size w0 wz
  s0 : L 0 = true → u14 = .agg #[.int .i64 x.when_, .int .i64 x.which]
  s1 : L 1 = true → u15 = .bool true
  s2 : L 2 = true → u16 = .bool false
  s3 : L 3 = true → u17 = .bool false
  s4 : L 4 = true → u18 = .map (some M)
  s5 : L 5 = true → u19 = .pointer (some ⟨X5, 1, none⟩)
  s6 : L 6 = true → u20 = .int .i64 x.which
  s7 : L 7 = true → u21 = .bool false
  s8 : L 8 = true → u22 = .bool false
  s9 : L 9 = true → u23 = .bool false
  s10 : L 10 = true → u24 = .int .i64 (kk : Int)
  s11 : L 11 = true → u25 = .bool false
  s12 : L 12 = true → u26 = .bool false
  s13 : L 13 = true → u27 = undef
  s14 : L 14 = true → u28 = undef
  s15 : L 15 = true → u29 = undef
  s16 : L 16 = true → u30 = undef
  s17 : L 17 = true → u31 = undef
  s18 : L 18 = true → u32 = undef
  s19 : L 19 = true → u33 = undef
  s20 : L 20 = true → u34 = undef
  s21 : L 21 = true → u35 = .bool false
  s22 : L 22 = true → u36 = .bool false
def RtFirstPhi (w0 : World) (M X5 bb off n c kk k1 : Nat) (x y : Du) (L : Nat → Bool) (vs : List Value) (w' : World) : Prop :=
  ∃ u14 u15 u16 u17 u18 u19 u20 u21 u22 u23 u24 u25 u26 u27 u28 u29 u30 u31 u32 u33 u34 u35 u36 wz, vs = [u14, u15, u16, u17, u18, u19, u20, u21, u22, u23, u24, u25, u26, u27, u28, u29, u30, u31, u32, u33, u34, u35, u36] ∧ RtFirst w0 M X5 bb off n c kk k1 x y L u14 u15 u16 u17 u18 u19 u20 u21 u22 u23 u24 u25 u26 u27 u28 u29 u30 u31 u32 u33 u34 u35 u36 wz ∧ wz = w'
structure RtLess0 (w0 : World) (M X5 bb off n c kk k1 : Nat) (x y : Du) (L : Nat → Bool) (u14 u15 u16 u17 u18 u19 u20 u21 u22 u23 u24 u25 u26 u27 u28 u29 u30 u31 u32 u33 u34 u35 u36 : Value) (wz : World) : Prop where
  b : Below w0.heap.size w0 wz
  s0 : L 0 = true → u14 = .agg #[.int .i64 x.when_, .int .i64 x.which]
  s1 : L 1 = true → u15 = .bool true
  s2 : L 2 = true → u16 = .bool false
  s3 : L 3 = true → u17 = .bool false
  s4 : L 4 = true → u18 = .map (some M)
  s5 : L 5 = true → u19 = .pointer (some ⟨X5, 1, none⟩)
  s6 : L 6 = true → u20 = .int .i64 x.which
  s7 : L 7 = true → u21 = .bool false
  s8 : L 8 = true → u22 = .bool false
  s9 : L 9 = true → u23 = .bool false
  s10 : L 10 = true → u24 = .int .i64 (kk : Int)
  s11 : L 11 = true → u25 = .bool true
  s12 : L 12 = true → u26 = .bool true
  s13 : L 13 = true → u27 = .slice (some ⟨bb, off, none⟩) n c
  s14 : L 14 = true → u28 = .int .i64 (kk : Int)
  s15 : L 15 = true → u29 = .int .i64 (k1 : Int)
  s16 : L 16 = true → u30 = .pointer (some ⟨bb, off + k1 * 2, none⟩)
  s17 : L 17 = true → u31 = .agg #[.int .i64 y.when_, .int .i64 y.which]
  s18 : L 18 = true → u32 = .agg #[.int .i64 x.when_, .int .i64 x.which]
  s19 : L 19 = true → u33 = .bool false
  s20 : L 20 = true → u34 = .bool true
  s21 : L 21 = true → u35 = .bool true
  s22 : L 22 = true → u36 = .bool true
def RtLess0Phi (w0 : World) (M X5 bb off n c kk k1 : Nat) (x y : Du) (L : Nat → Bool) (vs : List Value) (w' : World) : Prop :=
  ∃ u14 u15 u16 u17 u18 u19 u20 u21 u22 u23 u24 u25 u26 u27 u28 u29 u30 u31 u32 u33 u34 u35 u36 wz, vs = [u14, u15, u16, u17, u18, u19, u20, u21, u22, u23, u24, u25, u26, u27, u28, u29, u30, u31, u32, u33, u34, u35, u36] ∧ RtLess0 w0 M X5 bb off n c kk k1 x y L u14 u15 u16 u17 u18 u19 u20 u21 u22 u23 u24 u25 u26 u27 u28 u29 u30 u31 u32 u33 u34 u35 u36 wz ∧ wz = w'
structure RtLess1 (w0 : World) (M X5 bb off n c kk k1 : Nat) (x y : Du) (L : Nat → Bool) (u14 u15 u16 u17 u18 u19 u20 u21 u22 u23 u24 u25 u26 u27 u28 u29 u30 u31 u32 u33 u34 u35 u36 : Value) (wz : World) : Prop where
  b : Below w0.heap.size w0 wz
  s0 : L 0 = true → u14 = .agg #[.int .i64 x.when_, .int .i64 x.which]
  s1 : L 1 = true → u15 = .bool true
  s2 : L 2 = true → u16 = .bool false
  s3 : L 3 = true → u17 = .bool false
  s4 : L 4 = true → u18 = .map (some M)
  s5 : L 5 = true → u19 = .pointer (some ⟨X5, 1, none⟩)
  s6 : L 6 = true → u20 = .int .i64 x.which
  s7 : L 7 = true → u21 = .bool false
  s8 : L 8 = true → u22 = .bool false
  s9 : L 9 = true → u23 = .bool false
  s10 : L 10 = true → u24 = .int .i64 (kk : Int)
  s11 : L 11 = true → u25 = .bool true
  s12 : L 12 = true → u26 = .bool true
  s13 : L 13 = true → u27 = .slice (some ⟨bb, off, none⟩) n c
  s14 : L 14 = true → u28 = .int .i64 (kk : Int)
  s15 : L 15 = true → u29 = .int .i64 (k1 : Int)
  s16 : L 16 = true → u30 = .pointer (some ⟨bb, off + k1 * 2, none⟩)
  s17 : L 17 = true → u31 = .agg #[.int .i64 y.when_, .int .i64 y.which]
  s18 : L 18 = true → u32 = .agg #[.int .i64 x.when_, .int .i64 x.which]
  s19 : L 19 = true → u33 = .bool true
  s20 : L 20 = true → u34 = .bool false
  s21 : L 21 = true → u35 = .bool false
  s22 : L 22 = true → u36 = .bool false
def RtLess1Phi (w0 : World) (M X5 bb off n c kk k1 : Nat) (x y : Du) (L : Nat → Bool) (vs : List Value) (w' : World) : Prop :=
  ∃ u14 u15 u16 u17 u18 u19 u20 u21 u22 u23 u24 u25 u26 u27 u28 u29 u30 u31 u32 u33 u34 u35 u36 wz, vs = [u14, u15, u16, u17, u18, u19, u20, u21, u22, u23, u24, u25, u26, u27, u28, u29, u30, u31, u32, u33, u34, u35, u36] ∧ RtLess1 w0 M X5 bb off n c kk k1 x y L u14 u15 u16 u17 u18 u19 u20 u21 u22 u23 u24 u25 u26 u27 u28 u29 u30 u31 u32 u33 u34 u35 u36 wz ∧ wz = w'

instance (l : List Du) (j : Nat) : Decidable (okD l j) := by unfold okD; infer_instance
theorem mem_next {l : List Du} {kk : Nat} {ks : List Int} (h : ∀ x, x ∈ ks ↔ ∃ j, j < kk ∧ l[j]!.which = x) {z : Du} (hz : z = l[kk]!) : ∀ x, x ∈ z.which :: ks ↔ ∃ j, j < kk + 1 ∧ l[j]!.which = x := fun x => by
  rw [List.mem_cons, h x]
  constructor
  · rintro (e | ⟨j, hj, e⟩)
    · exact ⟨kk, by omega, by rw [← hz]; exact e.symm⟩
    · exact ⟨j, by omega, e⟩
  · rintro ⟨j, hj, e⟩
    by_cases hk : j = kk
    · subst hk; left; rw [hz]; exact e.symm
    · exact .inr ⟨j, by omega, e⟩
theorem ok_next {l : List Du} {kk : Nat} (h : ∀ j, j < kk → okD l j) (hk : okD l kk) : ∀ j, j < kk + 1 → okD l j := fun j hj => by
  by_cases e : j = kk
  · subst e; exact hk
  · exact h j (by omega)
def rightD (l : List Du) : Bool := decide (l.length ≤ 64 ∧ ∀ j, j < l.length → okD l j)

set_option maxHeartbeats 16000000 in
set_option maxRecDepth 100000 in
theorem right_any (A : Option Addr) (c n : Nat) (l : List Du) (w : World) (hs : Sl 2 Du.enc w A l) (hn : l.length = n) (hn1 : n ≤ 1000000) :
    Calls Try.prog 9 #[.slice A n c] w fun e w' => e = .returned (.bool (rightD l)) ∧ Below w.heap.size w w' := by
  have hmm := @run_makeMap Try.prog
  have sm := Seen.made w
  have b0 : Below w.heap.size w (w.alloc (.map #[] 0)) := (Below.refl _ _).alloc (Nat.le_refl _) _
  have HS := Lib.hid hs
  have HN := Lib.hid hn
  clear hs hn
  go_enter Try.func9, Try.ntmps9
  go_wp2_with fail
  clear hmm
  generalize w.alloc (.map #[] 0) = w0 at *
  go_loopg [9] n (fun gg s9 wr => ∃ (kk : Nat) (ks : List Int), kk ≤ n ∧ n - kk ≤ gg ∧ s9 = .int .i64 (kk : Int) ∧ Seen wr w.heap.size kk ks ∧ Aside (∀ x, x ∈ ks ↔ ∃ j, j < kk ∧ l[j]!.which = x) ∧ Aside (Below w.heap.size w wr) ∧ Aside (∀ j, j < kk → okD l j))
  case atStart => exact ⟨0, [], Nat.zero_le _, by omega, rfl, sm, (fun x => ⟨fun h => (by cases h), fun ⟨j, hj, _⟩ => absurd hj (Nat.not_lt_zero _)⟩), b0, fun j hj => absurd hj (Nat.not_lt_zero _)⟩
  case round =>
    clear sm b0
    obtain ⟨kk, ks, hkk, hg, rfl, sm, HK, HB, AA⟩ := hrel
    have hsl := HS.out.below HB.out
    have b := HB.out
    have ltM := sm.lt
    have bM := b.size
    clear HB
    by_cases hlt : kk < n
    · have hltz : (kk : Int) < (n : Int) := by omega
      have hin : kk < l.length := by rw [HN.out]; exact hlt
      have HIN := Lib.hid hin
      obtain ⟨bb, off, rfl, hq0⟩ := hsl.at_ kk hin
      have q0 := hq0 0 _ rfl
      have q1 := hq0 1 _ rfl
      rw [Nat.add_zero] at q0
      have hpr : 0 < kk → wr.cell? ⟨bb, off + (kk - 1) * 2, none⟩ = some (.int .i64 l[kk - 1]!.when_) ∧ wr.cell? ⟨bb, off + (kk - 1) * 2 + 1, none⟩ = some (.int .i64 l[kk - 1]!.which) := fun h0 => by
        obtain ⟨bb', off', e, hp⟩ := hsl.at_ (kk - 1) (by omega)
        obtain ⟨rfl, rfl⟩ : bb = bb' ∧ off = off' := by simpa using e
        exact ⟨hp 0 _ rfl, hp 1 _ rfl⟩
      have HPR := Lib.hid hpr
      have bad : ¬ okD l kk → rightD l = false := fun h => by
        simp only [rightD, decide_eq_false_iff_not]
        exact fun hh => h (hh.2 kk hin)
      have hok : okD l kk ↔ (mayD l[kk]! = true ∧ l[kk]!.which ∉ ks ∧ (0 < kk → lessD l[kk - 1]! l[kk]! = true)) := by
        unfold okD
        rw [HK.out]
        constructor
        · rintro ⟨h1, h2, h3⟩
          exact ⟨h1, fun ⟨j, hj, e⟩ => h2 j hj e, h3⟩
        · rintro ⟨h1, h2, h3⟩
          exact ⟨h1, fun j hj e => h2 ⟨j, hj, e⟩, h3⟩
      have HOK := Lib.hid hok
      have HBAD := Lib.hid bad
      clear hq0 hsl hin hpr bad hok
      have HXX := Lib.hid (rfl : l[kk]! = l[kk]!)
      obtain ⟨x, hx⟩ : ∃ x, x = l[kk]! := ⟨_, rfl⟩
      rw [← hx] at q0 q1 HOK
      have HX := Lib.hid hx
      clear hx HXX
      by_cases hm : mayD x = true
      · have cM := fun w1 => may_any x w1
        rw [hm] at cM
        have hwf : (Lit.int .i64 x.which).wf = true := by
          simp only [mayD, decide_eq_true_eq] at hm
          exact wf_int (by omega) (by omega)
        have HM := Lib.hid hm
        clear hm
        by_cases hse : x.which ∈ ks
        · have HF := Lib.hid (HBAD.out (fun h => (HOK.out.1 h).2.1 hse))
          have smA := sm
          go_wp2_with fail
          replace sm := sm.below ((Below.refl _ _).alloc (Nat.le_refl _) (.cells #[.int .i64 x.when_, .int .i64 x.which] 30))
          clear smA q0 q1
          have neM : w.heap.size ≠ wr.heap.size := by omega
          have bMr := bM
          have x0 : (wr.alloc (.cells #[.int .i64 x.when_, .int .i64 x.which] 30)).cell? ⟨wr.heap.size, 0, none⟩ = some (.int .i64 x.when_) := World.cell?_alloc_new (w := wr) _ _ _
          have x1 : (wr.alloc (.cells #[.int .i64 x.when_, .int .i64 x.which] 30)).cell? ⟨wr.heap.size, 1, none⟩ = some (.int .i64 x.which) := World.cell?_alloc_new (w := wr) _ _ _
          replace ltM : _ < (wr.alloc (.cells #[.int .i64 x.when_, .int .i64 x.which] 30)).heap.size := Nat.lt_of_lt_of_le ltM (by simp)
          replace b := b.alloc b.size (.cells #[.int .i64 x.when_, .int .i64 x.which] 30)
          have lt5 : wr.heap.size < (wr.alloc (.cells #[.int .i64 x.when_, .int .i64 x.which] 30)).heap.size := by simp
          generalize hw_w1 : wr.alloc (.cells #[.int .i64 x.when_, .int .i64 x.which] 30) = w1 at *
          clear hw_w1
          generalize wr.heap.size = X5 at *
          replace sm := sm.below (Below.refl _ _).drew
          replace b := b.drew
          replace x0 : w1.drew.cell? ⟨X5, 0, none⟩ = some (.int .i64 x.when_) := x0
          replace x1 : w1.drew.cell? ⟨X5, 1, none⟩ = some (.int .i64 x.which) := x1
          replace ltM : _ < w1.drew.heap.size := ltM
          replace lt5 : _ < w1.drew.heap.size := lt5
          have look := fun (wz : World) (hb : Below w1.drew.heap.size w1.drew wz) => (sm.below hb).lookup hwf
          rw [decide_eq_true hse] at look
          refine wp_region_rg (by kernel_rfl) (by kernel_rfl) [14, 15, 16, 17, 18, 19, 20, 21, 22, 23, 24, 25, 26, 27, 28, 29, 30, 31, 32, 33, 34, 35, 36] (RtSeenPhi w1.drew w.heap.size X5 bb off n c kk kk x x) ?h0 ⟨?q0, ?q1, ?q2, ?q3, ?q4, ?q5, ?q6, ?q7, ?q8, ?q9, ?q10, ?q11, ?q12, ?q13, ?q14, ?q15, ?q16, ?q17, ?q18, ?q19, ?q20, ?q21, ?q22, trivial⟩ ?hend
          case h0 => exact ⟨_, _, _, _, _, _, _, _, _, _, _, _, _, _, _, _, _, _, _, _, _, _, _, _, rfl, ⟨Below.refl _ _, (fun h => by cases h), (fun h => by cases h), (fun h => by cases h), (fun h => by cases h), (fun h => by cases h), (fun h => by cases h), (fun h => by cases h), (fun h => by cases h), (fun h => by cases h), (fun h => by cases h), (fun h => by cases h), (fun h => by cases h), (fun h => by cases h), (fun h => by cases h), (fun h => by cases h), (fun h => by cases h), (fun h => by cases h), (fun h => by cases h), (fun h => by cases h), (fun h => by cases h), (fun h => by cases h), (fun h => by cases h), (fun h => by cases h)⟩, rfl⟩
          case q0 =>
            rintro L vs w' K ⟨u14, u15, u16, u17, u18, u19, u20, u21, u22, u23, u24, u25, u26, u27, u28, u29, u30, u31, u32, u33, u34, u35, u36, wz, rfl, φ, rfl⟩ hL hpre hcl hK G hG
            simp [Region.binds, closedFrom] at hpre hcl
            have ce0 := (φ.b.cell (p := ⟨X5, 0, none⟩) lt5).trans x0
            have ce1 := (φ.b.cell (p := ⟨X5, 1, none⟩) lt5).trans x1
            have hk := hK [(.agg #[.int .i64 x.when_, .int .i64 x.which]), u15, u16, u17, u18, u19, u20, u21, u22, u23, u24, u25, u26, u27, u28, u29, u30, u31, u32, u33, u34, u35, u36] wz ⟨_, _, _, _, _, _, _, _, _, _, _, _, _, _, _, _, _, _, _, _, _, _, _, wz, rfl,
              { b := φ.b,
                s0 := fun _ => rfl,
                s1 := fun h0 => φ.s1 (by simpa using h0),
                s2 := fun h0 => φ.s2 (by simpa using h0),
                s3 := fun h0 => φ.s3 (by simpa using h0),
                s4 := fun h0 => φ.s4 (by simpa using h0),
                s5 := fun h0 => φ.s5 (by simpa using h0),
                s6 := fun h0 => φ.s6 (by simpa using h0),
                s7 := fun h0 => φ.s7 (by simpa using h0),
                s8 := fun h0 => φ.s8 (by simpa using h0),
                s9 := fun h0 => φ.s9 (by simpa using h0),
                s10 := fun h0 => φ.s10 (by simpa using h0),
                s11 := fun h0 => φ.s11 (by simpa using h0),
                s12 := fun h0 => φ.s12 (by simpa using h0),
                s13 := fun h0 => φ.s13 (by simpa using h0),
                s14 := fun h0 => φ.s14 (by simpa using h0),
                s15 := fun h0 => φ.s15 (by simpa using h0),
                s16 := fun h0 => φ.s16 (by simpa using h0),
                s17 := fun h0 => φ.s17 (by simpa using h0),
                s18 := fun h0 => φ.s18 (by simpa using h0),
                s19 := fun h0 => φ.s19 (by simpa using h0),
                s20 := fun h0 => φ.s20 (by simpa using h0),
                s21 := fun h0 => φ.s21 (by simpa using h0),
                s22 := fun h0 => φ.s22 (by simpa using h0) }, rfl⟩
            refine hG ?_
            clear hK φ hG
            revert hk
            go_simp
            first | done | exact fun h => h
          case q1 =>
            rintro L vs w' K ⟨u14, u15, u16, u17, u18, u19, u20, u21, u22, u23, u24, u25, u26, u27, u28, u29, u30, u31, u32, u33, u34, u35, u36, wz, rfl, φ, rfl⟩ hL hpre hcl hK G hG
            simp [Region.binds, closedFrom] at hpre hcl
            have e0 := φ.s0 (by simp [hpre])
            subst e0
            refine step_callg hG wz (by rfl) 20 #[.tmp 14] #[30] rfl #[.agg #[.int .i64 x.when_, .int .i64 x.which]] (by simp [Act.eval, Act.puts, Act.put]) (enters_of Try.func20 (by kernel_rfl) rfl) (cM wz) ?_
            rintro e w9 ⟨rfl, hb9⟩
            refine ⟨_, rfl, ?_⟩
            have hk := hK [(.agg #[.int .i64 x.when_, .int .i64 x.which]), (.bool true), u16, u17, u18, u19, u20, u21, u22, u23, u24, u25, u26, u27, u28, u29, u30, u31, u32, u33, u34, u35, u36] w9 ⟨_, _, _, _, _, _, _, _, _, _, _, _, _, _, _, _, _, _, _, _, _, _, _, w9, rfl,
              { b := φ.b.trans (hb9.mono φ.b.size),
                s0 := fun h0 => φ.s0 (by simpa using h0),
                s1 := fun _ => rfl,
                s2 := fun h0 => φ.s2 (by simpa using h0),
                s3 := fun h0 => φ.s3 (by simpa using h0),
                s4 := fun h0 => φ.s4 (by simpa using h0),
                s5 := fun h0 => φ.s5 (by simpa using h0),
                s6 := fun h0 => φ.s6 (by simpa using h0),
                s7 := fun h0 => φ.s7 (by simpa using h0),
                s8 := fun h0 => φ.s8 (by simpa using h0),
                s9 := fun h0 => φ.s9 (by simpa using h0),
                s10 := fun h0 => φ.s10 (by simpa using h0),
                s11 := fun h0 => φ.s11 (by simpa using h0),
                s12 := fun h0 => φ.s12 (by simpa using h0),
                s13 := fun h0 => φ.s13 (by simpa using h0),
                s14 := fun h0 => φ.s14 (by simpa using h0),
                s15 := fun h0 => φ.s15 (by simpa using h0),
                s16 := fun h0 => φ.s16 (by simpa using h0),
                s17 := fun h0 => φ.s17 (by simpa using h0),
                s18 := fun h0 => φ.s18 (by simpa using h0),
                s19 := fun h0 => φ.s19 (by simpa using h0),
                s20 := fun h0 => φ.s20 (by simpa using h0),
                s21 := fun h0 => φ.s21 (by simpa using h0),
                s22 := fun h0 => φ.s22 (by simpa using h0) }, rfl⟩
            clear hK φ hG
            revert hk
            go_simp
            first | done | exact fun h => h
          case q2 =>
            rintro L vs w' K ⟨u14, u15, u16, u17, u18, u19, u20, u21, u22, u23, u24, u25, u26, u27, u28, u29, u30, u31, u32, u33, u34, u35, u36, wz, rfl, φ, rfl⟩ hL hpre hcl hK G hG
            simp [Region.binds, closedFrom] at hpre hcl
            have e1 := φ.s1 (by simp [hpre])
            subst e1
            have hk := hK [u14, (.bool true), (.bool false), u17, u18, u19, u20, u21, u22, u23, u24, u25, u26, u27, u28, u29, u30, u31, u32, u33, u34, u35, u36] wz ⟨_, _, _, _, _, _, _, _, _, _, _, _, _, _, _, _, _, _, _, _, _, _, _, wz, rfl,
              { b := φ.b,
                s0 := fun h0 => φ.s0 (by simpa using h0),
                s1 := fun h0 => φ.s1 (by simpa using h0),
                s2 := fun _ => rfl,
                s3 := fun h0 => φ.s3 (by simpa using h0),
                s4 := fun h0 => φ.s4 (by simpa using h0),
                s5 := fun h0 => φ.s5 (by simpa using h0),
                s6 := fun h0 => φ.s6 (by simpa using h0),
                s7 := fun h0 => φ.s7 (by simpa using h0),
                s8 := fun h0 => φ.s8 (by simpa using h0),
                s9 := fun h0 => φ.s9 (by simpa using h0),
                s10 := fun h0 => φ.s10 (by simpa using h0),
                s11 := fun h0 => φ.s11 (by simpa using h0),
                s12 := fun h0 => φ.s12 (by simpa using h0),
                s13 := fun h0 => φ.s13 (by simpa using h0),
                s14 := fun h0 => φ.s14 (by simpa using h0),
                s15 := fun h0 => φ.s15 (by simpa using h0),
                s16 := fun h0 => φ.s16 (by simpa using h0),
                s17 := fun h0 => φ.s17 (by simpa using h0),
                s18 := fun h0 => φ.s18 (by simpa using h0),
                s19 := fun h0 => φ.s19 (by simpa using h0),
                s20 := fun h0 => φ.s20 (by simpa using h0),
                s21 := fun h0 => φ.s21 (by simpa using h0),
                s22 := fun h0 => φ.s22 (by simpa using h0) }, rfl⟩
            refine hG ?_
            clear hK φ hG
            revert hk
            go_simp
            first | done | exact fun h => h
          case q3 =>
            rintro L vs w' K ⟨u14, u15, u16, u17, u18, u19, u20, u21, u22, u23, u24, u25, u26, u27, u28, u29, u30, u31, u32, u33, u34, u35, u36, wz, rfl, φ, rfl⟩ hL hpre hcl hK G hG
            simp [Region.binds, closedFrom] at hpre hcl
            have e2 := φ.s2 (by simp [hpre])
            subst e2
            have hk := hK [u14, u15, (.bool false), (.bool false), u18, u19, u20, u21, u22, u23, u24, u25, u26, u27, u28, u29, u30, u31, u32, u33, u34, u35, u36] wz ⟨_, _, _, _, _, _, _, _, _, _, _, _, _, _, _, _, _, _, _, _, _, _, _, wz, rfl,
              { b := φ.b,
                s0 := fun h0 => φ.s0 (by simpa using h0),
                s1 := fun h0 => φ.s1 (by simpa using h0),
                s2 := fun h0 => φ.s2 (by simpa using h0),
                s3 := fun _ => rfl,
                s4 := fun h0 => φ.s4 (by simpa using h0),
                s5 := fun h0 => φ.s5 (by simpa using h0),
                s6 := fun h0 => φ.s6 (by simpa using h0),
                s7 := fun h0 => φ.s7 (by simpa using h0),
                s8 := fun h0 => φ.s8 (by simpa using h0),
                s9 := fun h0 => φ.s9 (by simpa using h0),
                s10 := fun h0 => φ.s10 (by simpa using h0),
                s11 := fun h0 => φ.s11 (by simpa using h0),
                s12 := fun h0 => φ.s12 (by simpa using h0),
                s13 := fun h0 => φ.s13 (by simpa using h0),
                s14 := fun h0 => φ.s14 (by simpa using h0),
                s15 := fun h0 => φ.s15 (by simpa using h0),
                s16 := fun h0 => φ.s16 (by simpa using h0),
                s17 := fun h0 => φ.s17 (by simpa using h0),
                s18 := fun h0 => φ.s18 (by simpa using h0),
                s19 := fun h0 => φ.s19 (by simpa using h0),
                s20 := fun h0 => φ.s20 (by simpa using h0),
                s21 := fun h0 => φ.s21 (by simpa using h0),
                s22 := fun h0 => φ.s22 (by simpa using h0) }, rfl⟩
            refine hG ?_
            clear hK φ hG
            revert hk
            go_simp
            first | done | exact fun h => h
          case q4 =>
            rintro L vs w' K ⟨u14, u15, u16, u17, u18, u19, u20, u21, u22, u23, u24, u25, u26, u27, u28, u29, u30, u31, u32, u33, u34, u35, u36, wz, rfl, φ, rfl⟩ hL hpre hcl hK G hG
            simp [Region.binds, closedFrom] at hpre hcl
            have e3 := φ.s3 (by simp [hpre])
            subst e3
            have hk := hK [u14, u15, u16, (.bool false), (.map (some w.heap.size)), u19, u20, u21, u22, u23, u24, u25, u26, u27, u28, u29, u30, u31, u32, u33, u34, u35, u36] wz ⟨_, _, _, _, _, _, _, _, _, _, _, _, _, _, _, _, _, _, _, _, _, _, _, wz, rfl,
              { b := φ.b,
                s0 := fun h0 => φ.s0 (by simpa using h0),
                s1 := fun h0 => φ.s1 (by simpa using h0),
                s2 := fun h0 => φ.s2 (by simpa using h0),
                s3 := fun h0 => φ.s3 (by simpa using h0),
                s4 := fun _ => rfl,
                s5 := fun h0 => φ.s5 (by simpa using h0),
                s6 := fun h0 => φ.s6 (by simpa using h0),
                s7 := fun h0 => φ.s7 (by simpa using h0),
                s8 := fun h0 => φ.s8 (by simpa using h0),
                s9 := fun h0 => φ.s9 (by simpa using h0),
                s10 := fun h0 => φ.s10 (by simpa using h0),
                s11 := fun h0 => φ.s11 (by simpa using h0),
                s12 := fun h0 => φ.s12 (by simpa using h0),
                s13 := fun h0 => φ.s13 (by simpa using h0),
                s14 := fun h0 => φ.s14 (by simpa using h0),
                s15 := fun h0 => φ.s15 (by simpa using h0),
                s16 := fun h0 => φ.s16 (by simpa using h0),
                s17 := fun h0 => φ.s17 (by simpa using h0),
                s18 := fun h0 => φ.s18 (by simpa using h0),
                s19 := fun h0 => φ.s19 (by simpa using h0),
                s20 := fun h0 => φ.s20 (by simpa using h0),
                s21 := fun h0 => φ.s21 (by simpa using h0),
                s22 := fun h0 => φ.s22 (by simpa using h0) }, rfl⟩
            refine hG ?_
            clear hK φ hG
            revert hk
            simp only [yielded, Region.wanted]
            go_simp
            first | done | exact fun h => h
          case q5 =>
            rintro L vs w' K ⟨u14, u15, u16, u17, u18, u19, u20, u21, u22, u23, u24, u25, u26, u27, u28, u29, u30, u31, u32, u33, u34, u35, u36, wz, rfl, φ, rfl⟩ hL hpre hcl hK G hG
            simp [Region.binds, closedFrom] at hpre hcl
            have e3 := φ.s3 (by simp [hpre])
            subst e3
            have hk := hK [u14, u15, u16, (.bool false), u18, (.pointer (some ⟨X5, 1, none⟩)), u20, u21, u22, u23, u24, u25, u26, u27, u28, u29, u30, u31, u32, u33, u34, u35, u36] wz ⟨_, _, _, _, _, _, _, _, _, _, _, _, _, _, _, _, _, _, _, _, _, _, _, wz, rfl,
              { b := φ.b,
                s0 := fun h0 => φ.s0 (by simpa using h0),
                s1 := fun h0 => φ.s1 (by simpa using h0),
                s2 := fun h0 => φ.s2 (by simpa using h0),
                s3 := fun h0 => φ.s3 (by simpa using h0),
                s4 := fun h0 => φ.s4 (by simpa using h0),
                s5 := fun _ => rfl,
                s6 := fun h0 => φ.s6 (by simpa using h0),
                s7 := fun h0 => φ.s7 (by simpa using h0),
                s8 := fun h0 => φ.s8 (by simpa using h0),
                s9 := fun h0 => φ.s9 (by simpa using h0),
                s10 := fun h0 => φ.s10 (by simpa using h0),
                s11 := fun h0 => φ.s11 (by simpa using h0),
                s12 := fun h0 => φ.s12 (by simpa using h0),
                s13 := fun h0 => φ.s13 (by simpa using h0),
                s14 := fun h0 => φ.s14 (by simpa using h0),
                s15 := fun h0 => φ.s15 (by simpa using h0),
                s16 := fun h0 => φ.s16 (by simpa using h0),
                s17 := fun h0 => φ.s17 (by simpa using h0),
                s18 := fun h0 => φ.s18 (by simpa using h0),
                s19 := fun h0 => φ.s19 (by simpa using h0),
                s20 := fun h0 => φ.s20 (by simpa using h0),
                s21 := fun h0 => φ.s21 (by simpa using h0),
                s22 := fun h0 => φ.s22 (by simpa using h0) }, rfl⟩
            refine hG ?_
            clear hK φ hG
            revert hk
            simp only [yielded, Region.wanted]
            go_simp
            first | done | exact fun h => h
          case q6 =>
            rintro L vs w' K ⟨u14, u15, u16, u17, u18, u19, u20, u21, u22, u23, u24, u25, u26, u27, u28, u29, u30, u31, u32, u33, u34, u35, u36, wz, rfl, φ, rfl⟩ hL hpre hcl hK G hG
            simp [Region.binds, closedFrom] at hpre hcl
            have e3 := φ.s3 (by simp [hpre])
            subst e3
            have e5 := φ.s5 (by simp [hpre])
            subst e5
            have ce0 := (φ.b.cell (p := ⟨X5, 1, none⟩) lt5).trans x1
            have hk := hK [u14, u15, u16, (.bool false), u18, (.pointer (some ⟨X5, 1, none⟩)), (.int .i64 x.which), u21, u22, u23, u24, u25, u26, u27, u28, u29, u30, u31, u32, u33, u34, u35, u36] wz ⟨_, _, _, _, _, _, _, _, _, _, _, _, _, _, _, _, _, _, _, _, _, _, _, wz, rfl,
              { b := φ.b,
                s0 := fun h0 => φ.s0 (by simpa using h0),
                s1 := fun h0 => φ.s1 (by simpa using h0),
                s2 := fun h0 => φ.s2 (by simpa using h0),
                s3 := fun h0 => φ.s3 (by simpa using h0),
                s4 := fun h0 => φ.s4 (by simpa using h0),
                s5 := fun h0 => φ.s5 (by simpa using h0),
                s6 := fun _ => rfl,
                s7 := fun h0 => φ.s7 (by simpa using h0),
                s8 := fun h0 => φ.s8 (by simpa using h0),
                s9 := fun h0 => φ.s9 (by simpa using h0),
                s10 := fun h0 => φ.s10 (by simpa using h0),
                s11 := fun h0 => φ.s11 (by simpa using h0),
                s12 := fun h0 => φ.s12 (by simpa using h0),
                s13 := fun h0 => φ.s13 (by simpa using h0),
                s14 := fun h0 => φ.s14 (by simpa using h0),
                s15 := fun h0 => φ.s15 (by simpa using h0),
                s16 := fun h0 => φ.s16 (by simpa using h0),
                s17 := fun h0 => φ.s17 (by simpa using h0),
                s18 := fun h0 => φ.s18 (by simpa using h0),
                s19 := fun h0 => φ.s19 (by simpa using h0),
                s20 := fun h0 => φ.s20 (by simpa using h0),
                s21 := fun h0 => φ.s21 (by simpa using h0),
                s22 := fun h0 => φ.s22 (by simpa using h0) }, rfl⟩
            refine hG ?_
            clear hK φ hG
            revert hk
            simp only [yielded, Region.wanted]
            go_simp
            first | done | exact fun h => h
          case q7 =>
            rintro L vs w' K ⟨u14, u15, u16, u17, u18, u19, u20, u21, u22, u23, u24, u25, u26, u27, u28, u29, u30, u31, u32, u33, u34, u35, u36, wz, rfl, φ, rfl⟩ hL hpre hcl hK G hG
            simp [Region.binds, closedFrom] at hpre hcl
            have e3 := φ.s3 (by simp [hpre])
            subst e3
            have e4 := φ.s4 (by simp [hpre])
            subst e4
            have e6 := φ.s6 (by simp [hpre])
            subst e6
            have hf := look wz φ.b
            have hk := hK [u14, u15, u16, (.bool false), (.map (some w.heap.size)), u19, (.int .i64 x.which), (.bool true), u22, u23, u24, u25, u26, u27, u28, u29, u30, u31, u32, u33, u34, u35, u36] wz ⟨_, _, _, _, _, _, _, _, _, _, _, _, _, _, _, _, _, _, _, _, _, _, _, wz, rfl,
              { b := φ.b,
                s0 := fun h0 => φ.s0 (by simpa using h0),
                s1 := fun h0 => φ.s1 (by simpa using h0),
                s2 := fun h0 => φ.s2 (by simpa using h0),
                s3 := fun h0 => φ.s3 (by simpa using h0),
                s4 := fun h0 => φ.s4 (by simpa using h0),
                s5 := fun h0 => φ.s5 (by simpa using h0),
                s6 := fun h0 => φ.s6 (by simpa using h0),
                s7 := fun _ => rfl,
                s8 := fun h0 => φ.s8 (by simpa using h0),
                s9 := fun h0 => φ.s9 (by simpa using h0),
                s10 := fun h0 => φ.s10 (by simpa using h0),
                s11 := fun h0 => φ.s11 (by simpa using h0),
                s12 := fun h0 => φ.s12 (by simpa using h0),
                s13 := fun h0 => φ.s13 (by simpa using h0),
                s14 := fun h0 => φ.s14 (by simpa using h0),
                s15 := fun h0 => φ.s15 (by simpa using h0),
                s16 := fun h0 => φ.s16 (by simpa using h0),
                s17 := fun h0 => φ.s17 (by simpa using h0),
                s18 := fun h0 => φ.s18 (by simpa using h0),
                s19 := fun h0 => φ.s19 (by simpa using h0),
                s20 := fun h0 => φ.s20 (by simpa using h0),
                s21 := fun h0 => φ.s21 (by simpa using h0),
                s22 := fun h0 => φ.s22 (by simpa using h0) }, rfl⟩
            refine hG ?_
            clear hK φ hG
            revert hk
            simp only [yielded, Region.wanted]
            go_simp
            first | done | exact fun h => h
          case q8 =>
            rintro L vs w' K ⟨u14, u15, u16, u17, u18, u19, u20, u21, u22, u23, u24, u25, u26, u27, u28, u29, u30, u31, u32, u33, u34, u35, u36, wz, rfl, φ, rfl⟩ hL hpre hcl hK G hG
            simp [Region.binds, closedFrom] at hpre hcl
            have e3 := φ.s3 (by simp [hpre])
            subst e3
            have e7 := φ.s7 (by simp [hpre])
            subst e7
            have hk := hK [u14, u15, u16, (.bool false), u18, u19, u20, (.bool true), (.bool true), u23, u24, u25, u26, u27, u28, u29, u30, u31, u32, u33, u34, u35, u36] wz ⟨_, _, _, _, _, _, _, _, _, _, _, _, _, _, _, _, _, _, _, _, _, _, _, wz, rfl,
              { b := φ.b,
                s0 := fun h0 => φ.s0 (by simpa using h0),
                s1 := fun h0 => φ.s1 (by simpa using h0),
                s2 := fun h0 => φ.s2 (by simpa using h0),
                s3 := fun h0 => φ.s3 (by simpa using h0),
                s4 := fun h0 => φ.s4 (by simpa using h0),
                s5 := fun h0 => φ.s5 (by simpa using h0),
                s6 := fun h0 => φ.s6 (by simpa using h0),
                s7 := fun h0 => φ.s7 (by simpa using h0),
                s8 := fun _ => rfl,
                s9 := fun h0 => φ.s9 (by simpa using h0),
                s10 := fun h0 => φ.s10 (by simpa using h0),
                s11 := fun h0 => φ.s11 (by simpa using h0),
                s12 := fun h0 => φ.s12 (by simpa using h0),
                s13 := fun h0 => φ.s13 (by simpa using h0),
                s14 := fun h0 => φ.s14 (by simpa using h0),
                s15 := fun h0 => φ.s15 (by simpa using h0),
                s16 := fun h0 => φ.s16 (by simpa using h0),
                s17 := fun h0 => φ.s17 (by simpa using h0),
                s18 := fun h0 => φ.s18 (by simpa using h0),
                s19 := fun h0 => φ.s19 (by simpa using h0),
                s20 := fun h0 => φ.s20 (by simpa using h0),
                s21 := fun h0 => φ.s21 (by simpa using h0),
                s22 := fun h0 => φ.s22 (by simpa using h0) }, rfl⟩
            refine hG ?_
            clear hK φ hG
            revert hk
            go_simp
            first | done | exact fun h => h
          case q9 =>
            rintro L vs w' K ⟨u14, u15, u16, u17, u18, u19, u20, u21, u22, u23, u24, u25, u26, u27, u28, u29, u30, u31, u32, u33, u34, u35, u36, wz, rfl, φ, rfl⟩ hL hpre hcl hK G hG
            simp [Region.binds, closedFrom] at hpre hcl
            have e8 := φ.s8 (by simp [hpre])
            subst e8
            have hk := hK [u14, u15, u16, u17, u18, u19, u20, u21, (.bool true), (.bool true), u24, u25, u26, u27, u28, u29, u30, u31, u32, u33, u34, u35, u36] wz ⟨_, _, _, _, _, _, _, _, _, _, _, _, _, _, _, _, _, _, _, _, _, _, _, wz, rfl,
              { b := φ.b,
                s0 := fun h0 => φ.s0 (by simpa using h0),
                s1 := fun h0 => φ.s1 (by simpa using h0),
                s2 := fun h0 => φ.s2 (by simpa using h0),
                s3 := fun h0 => φ.s3 (by simpa using h0),
                s4 := fun h0 => φ.s4 (by simpa using h0),
                s5 := fun h0 => φ.s5 (by simpa using h0),
                s6 := fun h0 => φ.s6 (by simpa using h0),
                s7 := fun h0 => φ.s7 (by simpa using h0),
                s8 := fun h0 => φ.s8 (by simpa using h0),
                s9 := fun _ => rfl,
                s10 := fun h0 => φ.s10 (by simpa using h0),
                s11 := fun h0 => φ.s11 (by simpa using h0),
                s12 := fun h0 => φ.s12 (by simpa using h0),
                s13 := fun h0 => φ.s13 (by simpa using h0),
                s14 := fun h0 => φ.s14 (by simpa using h0),
                s15 := fun h0 => φ.s15 (by simpa using h0),
                s16 := fun h0 => φ.s16 (by simpa using h0),
                s17 := fun h0 => φ.s17 (by simpa using h0),
                s18 := fun h0 => φ.s18 (by simpa using h0),
                s19 := fun h0 => φ.s19 (by simpa using h0),
                s20 := fun h0 => φ.s20 (by simpa using h0),
                s21 := fun h0 => φ.s21 (by simpa using h0),
                s22 := fun h0 => φ.s22 (by simpa using h0) }, rfl⟩
            refine hG ?_
            clear hK φ hG
            revert hk
            go_simp
            first | done | exact fun h => h
          case q10 =>
            rintro L vs w' K ⟨u14, u15, u16, u17, u18, u19, u20, u21, u22, u23, u24, u25, u26, u27, u28, u29, u30, u31, u32, u33, u34, u35, u36, wz, rfl, φ, rfl⟩ hL hpre hcl hK G hG
            simp [Region.binds, closedFrom] at hpre hcl
            have e9 := φ.s9 (by simp [hpre])
            subst e9
            have hk := hK [u14, u15, u16, u17, u18, u19, u20, u21, u22, (.bool true), (undef), u25, u26, u27, u28, u29, u30, u31, u32, u33, u34, u35, u36] wz ⟨_, _, _, _, _, _, _, _, _, _, _, _, _, _, _, _, _, _, _, _, _, _, _, wz, rfl,
              { b := φ.b,
                s0 := fun h0 => φ.s0 (by simpa using h0),
                s1 := fun h0 => φ.s1 (by simpa using h0),
                s2 := fun h0 => φ.s2 (by simpa using h0),
                s3 := fun h0 => φ.s3 (by simpa using h0),
                s4 := fun h0 => φ.s4 (by simpa using h0),
                s5 := fun h0 => φ.s5 (by simpa using h0),
                s6 := fun h0 => φ.s6 (by simpa using h0),
                s7 := fun h0 => φ.s7 (by simpa using h0),
                s8 := fun h0 => φ.s8 (by simpa using h0),
                s9 := fun h0 => φ.s9 (by simpa using h0),
                s10 := fun _ => rfl,
                s11 := fun h0 => φ.s11 (by simpa using h0),
                s12 := fun h0 => φ.s12 (by simpa using h0),
                s13 := fun h0 => φ.s13 (by simpa using h0),
                s14 := fun h0 => φ.s14 (by simpa using h0),
                s15 := fun h0 => φ.s15 (by simpa using h0),
                s16 := fun h0 => φ.s16 (by simpa using h0),
                s17 := fun h0 => φ.s17 (by simpa using h0),
                s18 := fun h0 => φ.s18 (by simpa using h0),
                s19 := fun h0 => φ.s19 (by simpa using h0),
                s20 := fun h0 => φ.s20 (by simpa using h0),
                s21 := fun h0 => φ.s21 (by simpa using h0),
                s22 := fun h0 => φ.s22 (by simpa using h0) }, rfl⟩
            refine hG ?_
            clear hK φ hG
            revert hk
            simp only [yielded, Region.wanted]
            go_simp
            first | done | exact fun h => h
          case q11 =>
            rintro L vs w' K ⟨u14, u15, u16, u17, u18, u19, u20, u21, u22, u23, u24, u25, u26, u27, u28, u29, u30, u31, u32, u33, u34, u35, u36, wz, rfl, φ, rfl⟩ hL hpre hcl hK G hG
            simp [Region.binds, closedFrom] at hpre hcl
            have e9 := φ.s9 (by simp [hpre])
            subst e9
            have hk := hK [u14, u15, u16, u17, u18, u19, u20, u21, u22, (.bool true), u24, (undef), u26, u27, u28, u29, u30, u31, u32, u33, u34, u35, u36] wz ⟨_, _, _, _, _, _, _, _, _, _, _, _, _, _, _, _, _, _, _, _, _, _, _, wz, rfl,
              { b := φ.b,
                s0 := fun h0 => φ.s0 (by simpa using h0),
                s1 := fun h0 => φ.s1 (by simpa using h0),
                s2 := fun h0 => φ.s2 (by simpa using h0),
                s3 := fun h0 => φ.s3 (by simpa using h0),
                s4 := fun h0 => φ.s4 (by simpa using h0),
                s5 := fun h0 => φ.s5 (by simpa using h0),
                s6 := fun h0 => φ.s6 (by simpa using h0),
                s7 := fun h0 => φ.s7 (by simpa using h0),
                s8 := fun h0 => φ.s8 (by simpa using h0),
                s9 := fun h0 => φ.s9 (by simpa using h0),
                s10 := fun h0 => φ.s10 (by simpa using h0),
                s11 := fun _ => rfl,
                s12 := fun h0 => φ.s12 (by simpa using h0),
                s13 := fun h0 => φ.s13 (by simpa using h0),
                s14 := fun h0 => φ.s14 (by simpa using h0),
                s15 := fun h0 => φ.s15 (by simpa using h0),
                s16 := fun h0 => φ.s16 (by simpa using h0),
                s17 := fun h0 => φ.s17 (by simpa using h0),
                s18 := fun h0 => φ.s18 (by simpa using h0),
                s19 := fun h0 => φ.s19 (by simpa using h0),
                s20 := fun h0 => φ.s20 (by simpa using h0),
                s21 := fun h0 => φ.s21 (by simpa using h0),
                s22 := fun h0 => φ.s22 (by simpa using h0) }, rfl⟩
            refine hG ?_
            clear hK φ hG
            revert hk
            simp only [yielded, Region.wanted]
            go_simp
            first | done | exact fun h => h
          case q12 =>
            rintro L vs w' K ⟨u14, u15, u16, u17, u18, u19, u20, u21, u22, u23, u24, u25, u26, u27, u28, u29, u30, u31, u32, u33, u34, u35, u36, wz, rfl, φ, rfl⟩ hL hpre hcl hK G hG
            simp [Region.binds, closedFrom] at hpre hcl
            have e9 := φ.s9 (by simp [hpre])
            subst e9
            have hk := hK [u14, u15, u16, u17, u18, u19, u20, u21, u22, (.bool true), u24, u25, (undef), u27, u28, u29, u30, u31, u32, u33, u34, u35, u36] wz ⟨_, _, _, _, _, _, _, _, _, _, _, _, _, _, _, _, _, _, _, _, _, _, _, wz, rfl,
              { b := φ.b,
                s0 := fun h0 => φ.s0 (by simpa using h0),
                s1 := fun h0 => φ.s1 (by simpa using h0),
                s2 := fun h0 => φ.s2 (by simpa using h0),
                s3 := fun h0 => φ.s3 (by simpa using h0),
                s4 := fun h0 => φ.s4 (by simpa using h0),
                s5 := fun h0 => φ.s5 (by simpa using h0),
                s6 := fun h0 => φ.s6 (by simpa using h0),
                s7 := fun h0 => φ.s7 (by simpa using h0),
                s8 := fun h0 => φ.s8 (by simpa using h0),
                s9 := fun h0 => φ.s9 (by simpa using h0),
                s10 := fun h0 => φ.s10 (by simpa using h0),
                s11 := fun h0 => φ.s11 (by simpa using h0),
                s12 := fun _ => rfl,
                s13 := fun h0 => φ.s13 (by simpa using h0),
                s14 := fun h0 => φ.s14 (by simpa using h0),
                s15 := fun h0 => φ.s15 (by simpa using h0),
                s16 := fun h0 => φ.s16 (by simpa using h0),
                s17 := fun h0 => φ.s17 (by simpa using h0),
                s18 := fun h0 => φ.s18 (by simpa using h0),
                s19 := fun h0 => φ.s19 (by simpa using h0),
                s20 := fun h0 => φ.s20 (by simpa using h0),
                s21 := fun h0 => φ.s21 (by simpa using h0),
                s22 := fun h0 => φ.s22 (by simpa using h0) }, rfl⟩
            refine hG ?_
            clear hK φ hG
            revert hk
            simp only [yielded, Region.wanted]
            go_simp
            first | done | exact fun h => h
          case q13 =>
            rintro L vs w' K ⟨u14, u15, u16, u17, u18, u19, u20, u21, u22, u23, u24, u25, u26, u27, u28, u29, u30, u31, u32, u33, u34, u35, u36, wz, rfl, φ, rfl⟩ hL hpre hcl hK G hG
            simp [Region.binds, closedFrom] at hpre hcl
            have e12 := φ.s12 (by simp [hpre])
            subst e12
            have hk := hK [u14, u15, u16, u17, u18, u19, u20, u21, u22, u23, u24, u25, (undef), (undef), u28, u29, u30, u31, u32, u33, u34, u35, u36] wz ⟨_, _, _, _, _, _, _, _, _, _, _, _, _, _, _, _, _, _, _, _, _, _, _, wz, rfl,
              { b := φ.b,
                s0 := fun h0 => φ.s0 (by simpa using h0),
                s1 := fun h0 => φ.s1 (by simpa using h0),
                s2 := fun h0 => φ.s2 (by simpa using h0),
                s3 := fun h0 => φ.s3 (by simpa using h0),
                s4 := fun h0 => φ.s4 (by simpa using h0),
                s5 := fun h0 => φ.s5 (by simpa using h0),
                s6 := fun h0 => φ.s6 (by simpa using h0),
                s7 := fun h0 => φ.s7 (by simpa using h0),
                s8 := fun h0 => φ.s8 (by simpa using h0),
                s9 := fun h0 => φ.s9 (by simpa using h0),
                s10 := fun h0 => φ.s10 (by simpa using h0),
                s11 := fun h0 => φ.s11 (by simpa using h0),
                s12 := fun h0 => φ.s12 (by simpa using h0),
                s13 := fun _ => rfl,
                s14 := fun h0 => φ.s14 (by simpa using h0),
                s15 := fun h0 => φ.s15 (by simpa using h0),
                s16 := fun h0 => φ.s16 (by simpa using h0),
                s17 := fun h0 => φ.s17 (by simpa using h0),
                s18 := fun h0 => φ.s18 (by simpa using h0),
                s19 := fun h0 => φ.s19 (by simpa using h0),
                s20 := fun h0 => φ.s20 (by simpa using h0),
                s21 := fun h0 => φ.s21 (by simpa using h0),
                s22 := fun h0 => φ.s22 (by simpa using h0) }, rfl⟩
            refine hG ?_
            clear hK φ hG
            revert hk
            simp only [yielded, Region.wanted]
            go_simp
            first | done | exact fun h => h
          case q14 =>
            rintro L vs w' K ⟨u14, u15, u16, u17, u18, u19, u20, u21, u22, u23, u24, u25, u26, u27, u28, u29, u30, u31, u32, u33, u34, u35, u36, wz, rfl, φ, rfl⟩ hL hpre hcl hK G hG
            simp [Region.binds, closedFrom] at hpre hcl
            have e12 := φ.s12 (by simp [hpre])
            subst e12
            have hk := hK [u14, u15, u16, u17, u18, u19, u20, u21, u22, u23, u24, u25, (undef), u27, (undef), u29, u30, u31, u32, u33, u34, u35, u36] wz ⟨_, _, _, _, _, _, _, _, _, _, _, _, _, _, _, _, _, _, _, _, _, _, _, wz, rfl,
              { b := φ.b,
                s0 := fun h0 => φ.s0 (by simpa using h0),
                s1 := fun h0 => φ.s1 (by simpa using h0),
                s2 := fun h0 => φ.s2 (by simpa using h0),
                s3 := fun h0 => φ.s3 (by simpa using h0),
                s4 := fun h0 => φ.s4 (by simpa using h0),
                s5 := fun h0 => φ.s5 (by simpa using h0),
                s6 := fun h0 => φ.s6 (by simpa using h0),
                s7 := fun h0 => φ.s7 (by simpa using h0),
                s8 := fun h0 => φ.s8 (by simpa using h0),
                s9 := fun h0 => φ.s9 (by simpa using h0),
                s10 := fun h0 => φ.s10 (by simpa using h0),
                s11 := fun h0 => φ.s11 (by simpa using h0),
                s12 := fun h0 => φ.s12 (by simpa using h0),
                s13 := fun h0 => φ.s13 (by simpa using h0),
                s14 := fun _ => rfl,
                s15 := fun h0 => φ.s15 (by simpa using h0),
                s16 := fun h0 => φ.s16 (by simpa using h0),
                s17 := fun h0 => φ.s17 (by simpa using h0),
                s18 := fun h0 => φ.s18 (by simpa using h0),
                s19 := fun h0 => φ.s19 (by simpa using h0),
                s20 := fun h0 => φ.s20 (by simpa using h0),
                s21 := fun h0 => φ.s21 (by simpa using h0),
                s22 := fun h0 => φ.s22 (by simpa using h0) }, rfl⟩
            refine hG ?_
            clear hK φ hG
            revert hk
            simp only [yielded, Region.wanted]
            go_simp
            first | done | exact fun h => h
          case q15 =>
            rintro L vs w' K ⟨u14, u15, u16, u17, u18, u19, u20, u21, u22, u23, u24, u25, u26, u27, u28, u29, u30, u31, u32, u33, u34, u35, u36, wz, rfl, φ, rfl⟩ hL hpre hcl hK G hG
            simp [Region.binds, closedFrom] at hpre hcl
            have e12 := φ.s12 (by simp [hpre])
            subst e12
            have hk := hK [u14, u15, u16, u17, u18, u19, u20, u21, u22, u23, u24, u25, (undef), u27, u28, (undef), u30, u31, u32, u33, u34, u35, u36] wz ⟨_, _, _, _, _, _, _, _, _, _, _, _, _, _, _, _, _, _, _, _, _, _, _, wz, rfl,
              { b := φ.b,
                s0 := fun h0 => φ.s0 (by simpa using h0),
                s1 := fun h0 => φ.s1 (by simpa using h0),
                s2 := fun h0 => φ.s2 (by simpa using h0),
                s3 := fun h0 => φ.s3 (by simpa using h0),
                s4 := fun h0 => φ.s4 (by simpa using h0),
                s5 := fun h0 => φ.s5 (by simpa using h0),
                s6 := fun h0 => φ.s6 (by simpa using h0),
                s7 := fun h0 => φ.s7 (by simpa using h0),
                s8 := fun h0 => φ.s8 (by simpa using h0),
                s9 := fun h0 => φ.s9 (by simpa using h0),
                s10 := fun h0 => φ.s10 (by simpa using h0),
                s11 := fun h0 => φ.s11 (by simpa using h0),
                s12 := fun h0 => φ.s12 (by simpa using h0),
                s13 := fun h0 => φ.s13 (by simpa using h0),
                s14 := fun h0 => φ.s14 (by simpa using h0),
                s15 := fun _ => rfl,
                s16 := fun h0 => φ.s16 (by simpa using h0),
                s17 := fun h0 => φ.s17 (by simpa using h0),
                s18 := fun h0 => φ.s18 (by simpa using h0),
                s19 := fun h0 => φ.s19 (by simpa using h0),
                s20 := fun h0 => φ.s20 (by simpa using h0),
                s21 := fun h0 => φ.s21 (by simpa using h0),
                s22 := fun h0 => φ.s22 (by simpa using h0) }, rfl⟩
            refine hG ?_
            clear hK φ hG
            revert hk
            simp only [yielded, Region.wanted]
            go_simp
            first | done | exact fun h => h
          case q16 =>
            rintro L vs w' K ⟨u14, u15, u16, u17, u18, u19, u20, u21, u22, u23, u24, u25, u26, u27, u28, u29, u30, u31, u32, u33, u34, u35, u36, wz, rfl, φ, rfl⟩ hL hpre hcl hK G hG
            simp [Region.binds, closedFrom] at hpre hcl
            have e12 := φ.s12 (by simp [hpre])
            subst e12
            have hk := hK [u14, u15, u16, u17, u18, u19, u20, u21, u22, u23, u24, u25, (undef), u27, u28, u29, (undef), u31, u32, u33, u34, u35, u36] wz ⟨_, _, _, _, _, _, _, _, _, _, _, _, _, _, _, _, _, _, _, _, _, _, _, wz, rfl,
              { b := φ.b,
                s0 := fun h0 => φ.s0 (by simpa using h0),
                s1 := fun h0 => φ.s1 (by simpa using h0),
                s2 := fun h0 => φ.s2 (by simpa using h0),
                s3 := fun h0 => φ.s3 (by simpa using h0),
                s4 := fun h0 => φ.s4 (by simpa using h0),
                s5 := fun h0 => φ.s5 (by simpa using h0),
                s6 := fun h0 => φ.s6 (by simpa using h0),
                s7 := fun h0 => φ.s7 (by simpa using h0),
                s8 := fun h0 => φ.s8 (by simpa using h0),
                s9 := fun h0 => φ.s9 (by simpa using h0),
                s10 := fun h0 => φ.s10 (by simpa using h0),
                s11 := fun h0 => φ.s11 (by simpa using h0),
                s12 := fun h0 => φ.s12 (by simpa using h0),
                s13 := fun h0 => φ.s13 (by simpa using h0),
                s14 := fun h0 => φ.s14 (by simpa using h0),
                s15 := fun h0 => φ.s15 (by simpa using h0),
                s16 := fun _ => rfl,
                s17 := fun h0 => φ.s17 (by simpa using h0),
                s18 := fun h0 => φ.s18 (by simpa using h0),
                s19 := fun h0 => φ.s19 (by simpa using h0),
                s20 := fun h0 => φ.s20 (by simpa using h0),
                s21 := fun h0 => φ.s21 (by simpa using h0),
                s22 := fun h0 => φ.s22 (by simpa using h0) }, rfl⟩
            refine hG ?_
            clear hK φ hG
            revert hk
            simp only [yielded, Region.wanted]
            go_simp
            first | done | exact fun h => h
          case q17 =>
            rintro L vs w' K ⟨u14, u15, u16, u17, u18, u19, u20, u21, u22, u23, u24, u25, u26, u27, u28, u29, u30, u31, u32, u33, u34, u35, u36, wz, rfl, φ, rfl⟩ hL hpre hcl hK G hG
            simp [Region.binds, closedFrom] at hpre hcl
            have e12 := φ.s12 (by simp [hpre])
            subst e12
            have hk := hK [u14, u15, u16, u17, u18, u19, u20, u21, u22, u23, u24, u25, (undef), u27, u28, u29, u30, (undef), u32, u33, u34, u35, u36] wz ⟨_, _, _, _, _, _, _, _, _, _, _, _, _, _, _, _, _, _, _, _, _, _, _, wz, rfl,
              { b := φ.b,
                s0 := fun h0 => φ.s0 (by simpa using h0),
                s1 := fun h0 => φ.s1 (by simpa using h0),
                s2 := fun h0 => φ.s2 (by simpa using h0),
                s3 := fun h0 => φ.s3 (by simpa using h0),
                s4 := fun h0 => φ.s4 (by simpa using h0),
                s5 := fun h0 => φ.s5 (by simpa using h0),
                s6 := fun h0 => φ.s6 (by simpa using h0),
                s7 := fun h0 => φ.s7 (by simpa using h0),
                s8 := fun h0 => φ.s8 (by simpa using h0),
                s9 := fun h0 => φ.s9 (by simpa using h0),
                s10 := fun h0 => φ.s10 (by simpa using h0),
                s11 := fun h0 => φ.s11 (by simpa using h0),
                s12 := fun h0 => φ.s12 (by simpa using h0),
                s13 := fun h0 => φ.s13 (by simpa using h0),
                s14 := fun h0 => φ.s14 (by simpa using h0),
                s15 := fun h0 => φ.s15 (by simpa using h0),
                s16 := fun h0 => φ.s16 (by simpa using h0),
                s17 := fun _ => rfl,
                s18 := fun h0 => φ.s18 (by simpa using h0),
                s19 := fun h0 => φ.s19 (by simpa using h0),
                s20 := fun h0 => φ.s20 (by simpa using h0),
                s21 := fun h0 => φ.s21 (by simpa using h0),
                s22 := fun h0 => φ.s22 (by simpa using h0) }, rfl⟩
            refine hG ?_
            clear hK φ hG
            revert hk
            simp only [yielded, Region.wanted]
            go_simp
            first | done | exact fun h => h
          case q18 =>
            rintro L vs w' K ⟨u14, u15, u16, u17, u18, u19, u20, u21, u22, u23, u24, u25, u26, u27, u28, u29, u30, u31, u32, u33, u34, u35, u36, wz, rfl, φ, rfl⟩ hL hpre hcl hK G hG
            simp [Region.binds, closedFrom] at hpre hcl
            have e12 := φ.s12 (by simp [hpre])
            subst e12
            have hk := hK [u14, u15, u16, u17, u18, u19, u20, u21, u22, u23, u24, u25, (undef), u27, u28, u29, u30, u31, (undef), u33, u34, u35, u36] wz ⟨_, _, _, _, _, _, _, _, _, _, _, _, _, _, _, _, _, _, _, _, _, _, _, wz, rfl,
              { b := φ.b,
                s0 := fun h0 => φ.s0 (by simpa using h0),
                s1 := fun h0 => φ.s1 (by simpa using h0),
                s2 := fun h0 => φ.s2 (by simpa using h0),
                s3 := fun h0 => φ.s3 (by simpa using h0),
                s4 := fun h0 => φ.s4 (by simpa using h0),
                s5 := fun h0 => φ.s5 (by simpa using h0),
                s6 := fun h0 => φ.s6 (by simpa using h0),
                s7 := fun h0 => φ.s7 (by simpa using h0),
                s8 := fun h0 => φ.s8 (by simpa using h0),
                s9 := fun h0 => φ.s9 (by simpa using h0),
                s10 := fun h0 => φ.s10 (by simpa using h0),
                s11 := fun h0 => φ.s11 (by simpa using h0),
                s12 := fun h0 => φ.s12 (by simpa using h0),
                s13 := fun h0 => φ.s13 (by simpa using h0),
                s14 := fun h0 => φ.s14 (by simpa using h0),
                s15 := fun h0 => φ.s15 (by simpa using h0),
                s16 := fun h0 => φ.s16 (by simpa using h0),
                s17 := fun h0 => φ.s17 (by simpa using h0),
                s18 := fun _ => rfl,
                s19 := fun h0 => φ.s19 (by simpa using h0),
                s20 := fun h0 => φ.s20 (by simpa using h0),
                s21 := fun h0 => φ.s21 (by simpa using h0),
                s22 := fun h0 => φ.s22 (by simpa using h0) }, rfl⟩
            refine hG ?_
            clear hK φ hG
            revert hk
            simp only [yielded, Region.wanted]
            go_simp
            first | done | exact fun h => h
          case q19 =>
            rintro L vs w' K ⟨u14, u15, u16, u17, u18, u19, u20, u21, u22, u23, u24, u25, u26, u27, u28, u29, u30, u31, u32, u33, u34, u35, u36, wz, rfl, φ, rfl⟩ hL hpre hcl hK G hG
            simp [Region.binds, closedFrom] at hpre hcl
            have e12 := φ.s12 (by simp [hpre])
            subst e12
            have hk := hK [u14, u15, u16, u17, u18, u19, u20, u21, u22, u23, u24, u25, (undef), u27, u28, u29, u30, u31, u32, (undef), u34, u35, u36] wz ⟨_, _, _, _, _, _, _, _, _, _, _, _, _, _, _, _, _, _, _, _, _, _, _, wz, rfl,
              { b := φ.b,
                s0 := fun h0 => φ.s0 (by simpa using h0),
                s1 := fun h0 => φ.s1 (by simpa using h0),
                s2 := fun h0 => φ.s2 (by simpa using h0),
                s3 := fun h0 => φ.s3 (by simpa using h0),
                s4 := fun h0 => φ.s4 (by simpa using h0),
                s5 := fun h0 => φ.s5 (by simpa using h0),
                s6 := fun h0 => φ.s6 (by simpa using h0),
                s7 := fun h0 => φ.s7 (by simpa using h0),
                s8 := fun h0 => φ.s8 (by simpa using h0),
                s9 := fun h0 => φ.s9 (by simpa using h0),
                s10 := fun h0 => φ.s10 (by simpa using h0),
                s11 := fun h0 => φ.s11 (by simpa using h0),
                s12 := fun h0 => φ.s12 (by simpa using h0),
                s13 := fun h0 => φ.s13 (by simpa using h0),
                s14 := fun h0 => φ.s14 (by simpa using h0),
                s15 := fun h0 => φ.s15 (by simpa using h0),
                s16 := fun h0 => φ.s16 (by simpa using h0),
                s17 := fun h0 => φ.s17 (by simpa using h0),
                s18 := fun h0 => φ.s18 (by simpa using h0),
                s19 := fun _ => rfl,
                s20 := fun h0 => φ.s20 (by simpa using h0),
                s21 := fun h0 => φ.s21 (by simpa using h0),
                s22 := fun h0 => φ.s22 (by simpa using h0) }, rfl⟩
            refine hG ?_
            clear hK φ hG
            revert hk
            simp only [yielded, Region.wanted]
            go_simp
            first | done | exact fun h => h
          case q20 =>
            rintro L vs w' K ⟨u14, u15, u16, u17, u18, u19, u20, u21, u22, u23, u24, u25, u26, u27, u28, u29, u30, u31, u32, u33, u34, u35, u36, wz, rfl, φ, rfl⟩ hL hpre hcl hK G hG
            simp [Region.binds, closedFrom] at hpre hcl
            have e12 := φ.s12 (by simp [hpre])
            subst e12
            have hk := hK [u14, u15, u16, u17, u18, u19, u20, u21, u22, u23, u24, u25, (undef), u27, u28, u29, u30, u31, u32, u33, (undef), u35, u36] wz ⟨_, _, _, _, _, _, _, _, _, _, _, _, _, _, _, _, _, _, _, _, _, _, _, wz, rfl,
              { b := φ.b,
                s0 := fun h0 => φ.s0 (by simpa using h0),
                s1 := fun h0 => φ.s1 (by simpa using h0),
                s2 := fun h0 => φ.s2 (by simpa using h0),
                s3 := fun h0 => φ.s3 (by simpa using h0),
                s4 := fun h0 => φ.s4 (by simpa using h0),
                s5 := fun h0 => φ.s5 (by simpa using h0),
                s6 := fun h0 => φ.s6 (by simpa using h0),
                s7 := fun h0 => φ.s7 (by simpa using h0),
                s8 := fun h0 => φ.s8 (by simpa using h0),
                s9 := fun h0 => φ.s9 (by simpa using h0),
                s10 := fun h0 => φ.s10 (by simpa using h0),
                s11 := fun h0 => φ.s11 (by simpa using h0),
                s12 := fun h0 => φ.s12 (by simpa using h0),
                s13 := fun h0 => φ.s13 (by simpa using h0),
                s14 := fun h0 => φ.s14 (by simpa using h0),
                s15 := fun h0 => φ.s15 (by simpa using h0),
                s16 := fun h0 => φ.s16 (by simpa using h0),
                s17 := fun h0 => φ.s17 (by simpa using h0),
                s18 := fun h0 => φ.s18 (by simpa using h0),
                s19 := fun h0 => φ.s19 (by simpa using h0),
                s20 := fun _ => rfl,
                s21 := fun h0 => φ.s21 (by simpa using h0),
                s22 := fun h0 => φ.s22 (by simpa using h0) }, rfl⟩
            refine hG ?_
            clear hK φ hG
            revert hk
            simp only [yielded, Region.wanted]
            go_simp
            first | done | exact fun h => h
          case q21 =>
            rintro L vs w' K ⟨u14, u15, u16, u17, u18, u19, u20, u21, u22, u23, u24, u25, u26, u27, u28, u29, u30, u31, u32, u33, u34, u35, u36, wz, rfl, φ, rfl⟩ hL hpre hcl hK G hG
            simp [Region.binds, closedFrom] at hpre hcl
            have e9 := φ.s9 (by simp [hpre])
            subst e9
            have hk := hK [u14, u15, u16, u17, u18, u19, u20, u21, u22, (.bool true), u24, u25, u26, u27, u28, u29, u30, u31, u32, u33, u34, (undef), u36] wz ⟨_, _, _, _, _, _, _, _, _, _, _, _, _, _, _, _, _, _, _, _, _, _, _, wz, rfl,
              { b := φ.b,
                s0 := fun h0 => φ.s0 (by simpa using h0),
                s1 := fun h0 => φ.s1 (by simpa using h0),
                s2 := fun h0 => φ.s2 (by simpa using h0),
                s3 := fun h0 => φ.s3 (by simpa using h0),
                s4 := fun h0 => φ.s4 (by simpa using h0),
                s5 := fun h0 => φ.s5 (by simpa using h0),
                s6 := fun h0 => φ.s6 (by simpa using h0),
                s7 := fun h0 => φ.s7 (by simpa using h0),
                s8 := fun h0 => φ.s8 (by simpa using h0),
                s9 := fun h0 => φ.s9 (by simpa using h0),
                s10 := fun h0 => φ.s10 (by simpa using h0),
                s11 := fun h0 => φ.s11 (by simpa using h0),
                s12 := fun h0 => φ.s12 (by simpa using h0),
                s13 := fun h0 => φ.s13 (by simpa using h0),
                s14 := fun h0 => φ.s14 (by simpa using h0),
                s15 := fun h0 => φ.s15 (by simpa using h0),
                s16 := fun h0 => φ.s16 (by simpa using h0),
                s17 := fun h0 => φ.s17 (by simpa using h0),
                s18 := fun h0 => φ.s18 (by simpa using h0),
                s19 := fun h0 => φ.s19 (by simpa using h0),
                s20 := fun h0 => φ.s20 (by simpa using h0),
                s21 := fun _ => rfl,
                s22 := fun h0 => φ.s22 (by simpa using h0) }, rfl⟩
            refine hG ?_
            clear hK φ hG
            revert hk
            simp only [yielded, Region.wanted]
            go_simp
            first | done | exact fun h => h
          case q22 =>
            rintro L vs w' K ⟨u14, u15, u16, u17, u18, u19, u20, u21, u22, u23, u24, u25, u26, u27, u28, u29, u30, u31, u32, u33, u34, u35, u36, wz, rfl, φ, rfl⟩ hL hpre hcl hK G hG
            simp [Region.binds, closedFrom] at hpre hcl
            have e9 := φ.s9 (by simp [hpre])
            subst e9
            have e21 := φ.s21 (by simp [hpre])
            subst e21
            have hk := hK [u14, u15, u16, u17, u18, u19, u20, u21, u22, (.bool true), u24, u25, u26, u27, u28, u29, u30, u31, u32, u33, u34, (undef), (.bool true)] wz ⟨_, _, _, _, _, _, _, _, _, _, _, _, _, _, _, _, _, _, _, _, _, _, _, wz, rfl,
              { b := φ.b,
                s0 := fun h0 => φ.s0 (by simpa using h0),
                s1 := fun h0 => φ.s1 (by simpa using h0),
                s2 := fun h0 => φ.s2 (by simpa using h0),
                s3 := fun h0 => φ.s3 (by simpa using h0),
                s4 := fun h0 => φ.s4 (by simpa using h0),
                s5 := fun h0 => φ.s5 (by simpa using h0),
                s6 := fun h0 => φ.s6 (by simpa using h0),
                s7 := fun h0 => φ.s7 (by simpa using h0),
                s8 := fun h0 => φ.s8 (by simpa using h0),
                s9 := fun h0 => φ.s9 (by simpa using h0),
                s10 := fun h0 => φ.s10 (by simpa using h0),
                s11 := fun h0 => φ.s11 (by simpa using h0),
                s12 := fun h0 => φ.s12 (by simpa using h0),
                s13 := fun h0 => φ.s13 (by simpa using h0),
                s14 := fun h0 => φ.s14 (by simpa using h0),
                s15 := fun h0 => φ.s15 (by simpa using h0),
                s16 := fun h0 => φ.s16 (by simpa using h0),
                s17 := fun h0 => φ.s17 (by simpa using h0),
                s18 := fun h0 => φ.s18 (by simpa using h0),
                s19 := fun h0 => φ.s19 (by simpa using h0),
                s20 := fun h0 => φ.s20 (by simpa using h0),
                s21 := fun h0 => φ.s21 (by simpa using h0),
                s22 := fun _ => rfl }, rfl⟩
            refine hG ?_
            clear hK φ hG
            revert hk
            go_simp
            first | done | exact fun h => h
          case hend =>
            rintro vs w' ⟨u14, u15, u16, u17, u18, u19, u20, u21, u22, u23, u24, u25, u26, u27, u28, u29, u30, u31, u32, u33, u34, u35, u36, wz, rfl, φ, rfl⟩ G hG
            obtain rfl := φ.s22 rfl
            have b9 := φ.b
            clear φ
            refine hG ?_
            clear hG
            have b2 := b.trans (b9.mono b.size)
            clear x0 x1 sm ltM lt5 b9 b bMr neM bM cM
            go_simp
            go_wp2_with fail
            go_ret
            rw [HF.out]
            exact ⟨rfl, b2⟩
        · by_cases hk0 : 0 < kk
          · obtain ⟨p0, p1⟩ := HPR.out hk0
            obtain ⟨k1, hk1⟩ : ∃ k1, kk - 1 = k1 := ⟨_, rfl⟩
            rw [hk1] at p0 p1 HOK
            have hk1a : k1 + 1 ≤ kk := by omega
            have hk1b : kk ≤ k1 + 1 := by omega
            clear hk1 HPR
            obtain ⟨y, hy⟩ : ∃ y, y = l[k1]! := ⟨_, rfl⟩
            rw [← hy] at p0 p1 HOK
            have HY := Lib.hid hy
            have cL := fun w1 => less_any y x w1
            have zk : decide (0 < kk) = true := decide_eq_true hk0
            have hk0z : (0 : Int) < (kk : Int) := by omega
            have zkz : decide ((0 : Int) < (kk : Int)) = true := decide_eq_true hk0z
            have hw2 : (0 : Int) ≤ (k1 : Int) := by omega
            have hw3 : (k1 : Int) < (n : Int) := by omega
            have hw4 : (kk : Int) - 1 = (k1 : Int) := by omega
            have hw5 : IntKind.i64.wrap (k1 : Int) = (k1 : Int) := IntWalk.i64_in _ (by omega)
            clear hy
            cases hls : lessD y x with
            | false =>
              rw [hls] at cL
              have HF := Lib.hid (HBAD.out (fun h => by have := (HOK.out.1 h).2.2 hk0; rw [hls] at this; cases this))
              clear hls
              have smA := sm
              go_wp2_with fail
              replace sm := sm.below ((Below.refl _ _).alloc (Nat.le_refl _) (.cells #[.int .i64 x.when_, .int .i64 x.which] 30))
              clear smA q0 q1
              have neM : w.heap.size ≠ wr.heap.size := by omega
              have bMr := bM
              replace p0 : (wr.alloc (.cells #[.int .i64 x.when_, .int .i64 x.which] 30)).cell? ⟨bb, off + k1 * 2, none⟩ = some (.int .i64 y.when_) := (World.cell?_alloc_lt wr _ ⟨bb, off + k1 * 2, none⟩ (World.block_lt_of_cell? _ _ p0)).trans p0
              replace p1 : (wr.alloc (.cells #[.int .i64 x.when_, .int .i64 x.which] 30)).cell? ⟨bb, off + k1 * 2 + 1, none⟩ = some (.int .i64 y.which) := (World.cell?_alloc_lt wr _ ⟨bb, off + k1 * 2 + 1, none⟩ (World.block_lt_of_cell? _ _ p1)).trans p1
              have x0 : (wr.alloc (.cells #[.int .i64 x.when_, .int .i64 x.which] 30)).cell? ⟨wr.heap.size, 0, none⟩ = some (.int .i64 x.when_) := World.cell?_alloc_new (w := wr) _ _ _
              have x1 : (wr.alloc (.cells #[.int .i64 x.when_, .int .i64 x.which] 30)).cell? ⟨wr.heap.size, 1, none⟩ = some (.int .i64 x.which) := World.cell?_alloc_new (w := wr) _ _ _
              replace ltM : _ < (wr.alloc (.cells #[.int .i64 x.when_, .int .i64 x.which] 30)).heap.size := Nat.lt_of_lt_of_le ltM (by simp)
              replace b := b.alloc b.size (.cells #[.int .i64 x.when_, .int .i64 x.which] 30)
              have lt5 : wr.heap.size < (wr.alloc (.cells #[.int .i64 x.when_, .int .i64 x.which] 30)).heap.size := by simp
              generalize hw_w1 : wr.alloc (.cells #[.int .i64 x.when_, .int .i64 x.which] 30) = w1 at *
              clear hw_w1
              generalize wr.heap.size = X5 at *
              replace sm := sm.below (Below.refl _ _).drew
              replace b := b.drew
              replace p0 : w1.drew.cell? ⟨bb, off + k1 * 2, none⟩ = some (.int .i64 y.when_) := p0
              replace p1 : w1.drew.cell? ⟨bb, off + k1 * 2 + 1, none⟩ = some (.int .i64 y.which) := p1
              replace x0 : w1.drew.cell? ⟨X5, 0, none⟩ = some (.int .i64 x.when_) := x0
              replace x1 : w1.drew.cell? ⟨X5, 1, none⟩ = some (.int .i64 x.which) := x1
              replace ltM : _ < w1.drew.heap.size := ltM
              replace lt5 : _ < w1.drew.heap.size := lt5
              have look := fun (wz : World) (hb : Below w1.drew.heap.size w1.drew wz) => (sm.below hb).lookup hwf
              rw [decide_eq_false hse] at look
              refine wp_region_rg (by kernel_rfl) (by kernel_rfl) [14, 15, 16, 17, 18, 19, 20, 21, 22, 23, 24, 25, 26, 27, 28, 29, 30, 31, 32, 33, 34, 35, 36] (RtLess0Phi w1.drew w.heap.size X5 bb off n c kk k1 x y) ?h0 ⟨?q0, ?q1, ?q2, ?q3, ?q4, ?q5, ?q6, ?q7, ?q8, ?q9, ?q10, ?q11, ?q12, ?q13, ?q14, ?q15, ?q16, ?q17, ?q18, ?q19, ?q20, ?q21, ?q22, trivial⟩ ?hend
              case h0 => exact ⟨_, _, _, _, _, _, _, _, _, _, _, _, _, _, _, _, _, _, _, _, _, _, _, _, rfl, ⟨Below.refl _ _, (fun h => by cases h), (fun h => by cases h), (fun h => by cases h), (fun h => by cases h), (fun h => by cases h), (fun h => by cases h), (fun h => by cases h), (fun h => by cases h), (fun h => by cases h), (fun h => by cases h), (fun h => by cases h), (fun h => by cases h), (fun h => by cases h), (fun h => by cases h), (fun h => by cases h), (fun h => by cases h), (fun h => by cases h), (fun h => by cases h), (fun h => by cases h), (fun h => by cases h), (fun h => by cases h), (fun h => by cases h), (fun h => by cases h)⟩, rfl⟩
              case q0 =>
                rintro L vs w' K ⟨u14, u15, u16, u17, u18, u19, u20, u21, u22, u23, u24, u25, u26, u27, u28, u29, u30, u31, u32, u33, u34, u35, u36, wz, rfl, φ, rfl⟩ hL hpre hcl hK G hG
                simp [Region.binds, closedFrom] at hpre hcl
                have ce0 := (φ.b.cell (p := ⟨X5, 0, none⟩) lt5).trans x0
                have ce1 := (φ.b.cell (p := ⟨X5, 1, none⟩) lt5).trans x1
                have hk := hK [(.agg #[.int .i64 x.when_, .int .i64 x.which]), u15, u16, u17, u18, u19, u20, u21, u22, u23, u24, u25, u26, u27, u28, u29, u30, u31, u32, u33, u34, u35, u36] wz ⟨_, _, _, _, _, _, _, _, _, _, _, _, _, _, _, _, _, _, _, _, _, _, _, wz, rfl,
                  { b := φ.b,
                    s0 := fun _ => rfl,
                    s1 := fun h0 => φ.s1 (by simpa using h0),
                    s2 := fun h0 => φ.s2 (by simpa using h0),
                    s3 := fun h0 => φ.s3 (by simpa using h0),
                    s4 := fun h0 => φ.s4 (by simpa using h0),
                    s5 := fun h0 => φ.s5 (by simpa using h0),
                    s6 := fun h0 => φ.s6 (by simpa using h0),
                    s7 := fun h0 => φ.s7 (by simpa using h0),
                    s8 := fun h0 => φ.s8 (by simpa using h0),
                    s9 := fun h0 => φ.s9 (by simpa using h0),
                    s10 := fun h0 => φ.s10 (by simpa using h0),
                    s11 := fun h0 => φ.s11 (by simpa using h0),
                    s12 := fun h0 => φ.s12 (by simpa using h0),
                    s13 := fun h0 => φ.s13 (by simpa using h0),
                    s14 := fun h0 => φ.s14 (by simpa using h0),
                    s15 := fun h0 => φ.s15 (by simpa using h0),
                    s16 := fun h0 => φ.s16 (by simpa using h0),
                    s17 := fun h0 => φ.s17 (by simpa using h0),
                    s18 := fun h0 => φ.s18 (by simpa using h0),
                    s19 := fun h0 => φ.s19 (by simpa using h0),
                    s20 := fun h0 => φ.s20 (by simpa using h0),
                    s21 := fun h0 => φ.s21 (by simpa using h0),
                    s22 := fun h0 => φ.s22 (by simpa using h0) }, rfl⟩
                refine hG ?_
                clear hK φ hG
                revert hk
                go_simp
                first | done | exact fun h => h
              case q1 =>
                rintro L vs w' K ⟨u14, u15, u16, u17, u18, u19, u20, u21, u22, u23, u24, u25, u26, u27, u28, u29, u30, u31, u32, u33, u34, u35, u36, wz, rfl, φ, rfl⟩ hL hpre hcl hK G hG
                simp [Region.binds, closedFrom] at hpre hcl
                have e0 := φ.s0 (by simp [hpre])
                subst e0
                refine step_callg hG wz (by rfl) 20 #[.tmp 14] #[30] rfl #[.agg #[.int .i64 x.when_, .int .i64 x.which]] (by simp [Act.eval, Act.puts, Act.put]) (enters_of Try.func20 (by kernel_rfl) rfl) (cM wz) ?_
                rintro e w9 ⟨rfl, hb9⟩
                refine ⟨_, rfl, ?_⟩
                have hk := hK [(.agg #[.int .i64 x.when_, .int .i64 x.which]), (.bool true), u16, u17, u18, u19, u20, u21, u22, u23, u24, u25, u26, u27, u28, u29, u30, u31, u32, u33, u34, u35, u36] w9 ⟨_, _, _, _, _, _, _, _, _, _, _, _, _, _, _, _, _, _, _, _, _, _, _, w9, rfl,
                  { b := φ.b.trans (hb9.mono φ.b.size),
                    s0 := fun h0 => φ.s0 (by simpa using h0),
                    s1 := fun _ => rfl,
                    s2 := fun h0 => φ.s2 (by simpa using h0),
                    s3 := fun h0 => φ.s3 (by simpa using h0),
                    s4 := fun h0 => φ.s4 (by simpa using h0),
                    s5 := fun h0 => φ.s5 (by simpa using h0),
                    s6 := fun h0 => φ.s6 (by simpa using h0),
                    s7 := fun h0 => φ.s7 (by simpa using h0),
                    s8 := fun h0 => φ.s8 (by simpa using h0),
                    s9 := fun h0 => φ.s9 (by simpa using h0),
                    s10 := fun h0 => φ.s10 (by simpa using h0),
                    s11 := fun h0 => φ.s11 (by simpa using h0),
                    s12 := fun h0 => φ.s12 (by simpa using h0),
                    s13 := fun h0 => φ.s13 (by simpa using h0),
                    s14 := fun h0 => φ.s14 (by simpa using h0),
                    s15 := fun h0 => φ.s15 (by simpa using h0),
                    s16 := fun h0 => φ.s16 (by simpa using h0),
                    s17 := fun h0 => φ.s17 (by simpa using h0),
                    s18 := fun h0 => φ.s18 (by simpa using h0),
                    s19 := fun h0 => φ.s19 (by simpa using h0),
                    s20 := fun h0 => φ.s20 (by simpa using h0),
                    s21 := fun h0 => φ.s21 (by simpa using h0),
                    s22 := fun h0 => φ.s22 (by simpa using h0) }, rfl⟩
                clear hK φ hG
                revert hk
                go_simp
                first | done | exact fun h => h
              case q2 =>
                rintro L vs w' K ⟨u14, u15, u16, u17, u18, u19, u20, u21, u22, u23, u24, u25, u26, u27, u28, u29, u30, u31, u32, u33, u34, u35, u36, wz, rfl, φ, rfl⟩ hL hpre hcl hK G hG
                simp [Region.binds, closedFrom] at hpre hcl
                have e1 := φ.s1 (by simp [hpre])
                subst e1
                have hk := hK [u14, (.bool true), (.bool false), u17, u18, u19, u20, u21, u22, u23, u24, u25, u26, u27, u28, u29, u30, u31, u32, u33, u34, u35, u36] wz ⟨_, _, _, _, _, _, _, _, _, _, _, _, _, _, _, _, _, _, _, _, _, _, _, wz, rfl,
                  { b := φ.b,
                    s0 := fun h0 => φ.s0 (by simpa using h0),
                    s1 := fun h0 => φ.s1 (by simpa using h0),
                    s2 := fun _ => rfl,
                    s3 := fun h0 => φ.s3 (by simpa using h0),
                    s4 := fun h0 => φ.s4 (by simpa using h0),
                    s5 := fun h0 => φ.s5 (by simpa using h0),
                    s6 := fun h0 => φ.s6 (by simpa using h0),
                    s7 := fun h0 => φ.s7 (by simpa using h0),
                    s8 := fun h0 => φ.s8 (by simpa using h0),
                    s9 := fun h0 => φ.s9 (by simpa using h0),
                    s10 := fun h0 => φ.s10 (by simpa using h0),
                    s11 := fun h0 => φ.s11 (by simpa using h0),
                    s12 := fun h0 => φ.s12 (by simpa using h0),
                    s13 := fun h0 => φ.s13 (by simpa using h0),
                    s14 := fun h0 => φ.s14 (by simpa using h0),
                    s15 := fun h0 => φ.s15 (by simpa using h0),
                    s16 := fun h0 => φ.s16 (by simpa using h0),
                    s17 := fun h0 => φ.s17 (by simpa using h0),
                    s18 := fun h0 => φ.s18 (by simpa using h0),
                    s19 := fun h0 => φ.s19 (by simpa using h0),
                    s20 := fun h0 => φ.s20 (by simpa using h0),
                    s21 := fun h0 => φ.s21 (by simpa using h0),
                    s22 := fun h0 => φ.s22 (by simpa using h0) }, rfl⟩
                refine hG ?_
                clear hK φ hG
                revert hk
                go_simp
                first | done | exact fun h => h
              case q3 =>
                rintro L vs w' K ⟨u14, u15, u16, u17, u18, u19, u20, u21, u22, u23, u24, u25, u26, u27, u28, u29, u30, u31, u32, u33, u34, u35, u36, wz, rfl, φ, rfl⟩ hL hpre hcl hK G hG
                simp [Region.binds, closedFrom] at hpre hcl
                have e2 := φ.s2 (by simp [hpre])
                subst e2
                have hk := hK [u14, u15, (.bool false), (.bool false), u18, u19, u20, u21, u22, u23, u24, u25, u26, u27, u28, u29, u30, u31, u32, u33, u34, u35, u36] wz ⟨_, _, _, _, _, _, _, _, _, _, _, _, _, _, _, _, _, _, _, _, _, _, _, wz, rfl,
                  { b := φ.b,
                    s0 := fun h0 => φ.s0 (by simpa using h0),
                    s1 := fun h0 => φ.s1 (by simpa using h0),
                    s2 := fun h0 => φ.s2 (by simpa using h0),
                    s3 := fun _ => rfl,
                    s4 := fun h0 => φ.s4 (by simpa using h0),
                    s5 := fun h0 => φ.s5 (by simpa using h0),
                    s6 := fun h0 => φ.s6 (by simpa using h0),
                    s7 := fun h0 => φ.s7 (by simpa using h0),
                    s8 := fun h0 => φ.s8 (by simpa using h0),
                    s9 := fun h0 => φ.s9 (by simpa using h0),
                    s10 := fun h0 => φ.s10 (by simpa using h0),
                    s11 := fun h0 => φ.s11 (by simpa using h0),
                    s12 := fun h0 => φ.s12 (by simpa using h0),
                    s13 := fun h0 => φ.s13 (by simpa using h0),
                    s14 := fun h0 => φ.s14 (by simpa using h0),
                    s15 := fun h0 => φ.s15 (by simpa using h0),
                    s16 := fun h0 => φ.s16 (by simpa using h0),
                    s17 := fun h0 => φ.s17 (by simpa using h0),
                    s18 := fun h0 => φ.s18 (by simpa using h0),
                    s19 := fun h0 => φ.s19 (by simpa using h0),
                    s20 := fun h0 => φ.s20 (by simpa using h0),
                    s21 := fun h0 => φ.s21 (by simpa using h0),
                    s22 := fun h0 => φ.s22 (by simpa using h0) }, rfl⟩
                refine hG ?_
                clear hK φ hG
                revert hk
                go_simp
                first | done | exact fun h => h
              case q4 =>
                rintro L vs w' K ⟨u14, u15, u16, u17, u18, u19, u20, u21, u22, u23, u24, u25, u26, u27, u28, u29, u30, u31, u32, u33, u34, u35, u36, wz, rfl, φ, rfl⟩ hL hpre hcl hK G hG
                simp [Region.binds, closedFrom] at hpre hcl
                have e3 := φ.s3 (by simp [hpre])
                subst e3
                have hk := hK [u14, u15, u16, (.bool false), (.map (some w.heap.size)), u19, u20, u21, u22, u23, u24, u25, u26, u27, u28, u29, u30, u31, u32, u33, u34, u35, u36] wz ⟨_, _, _, _, _, _, _, _, _, _, _, _, _, _, _, _, _, _, _, _, _, _, _, wz, rfl,
                  { b := φ.b,
                    s0 := fun h0 => φ.s0 (by simpa using h0),
                    s1 := fun h0 => φ.s1 (by simpa using h0),
                    s2 := fun h0 => φ.s2 (by simpa using h0),
                    s3 := fun h0 => φ.s3 (by simpa using h0),
                    s4 := fun _ => rfl,
                    s5 := fun h0 => φ.s5 (by simpa using h0),
                    s6 := fun h0 => φ.s6 (by simpa using h0),
                    s7 := fun h0 => φ.s7 (by simpa using h0),
                    s8 := fun h0 => φ.s8 (by simpa using h0),
                    s9 := fun h0 => φ.s9 (by simpa using h0),
                    s10 := fun h0 => φ.s10 (by simpa using h0),
                    s11 := fun h0 => φ.s11 (by simpa using h0),
                    s12 := fun h0 => φ.s12 (by simpa using h0),
                    s13 := fun h0 => φ.s13 (by simpa using h0),
                    s14 := fun h0 => φ.s14 (by simpa using h0),
                    s15 := fun h0 => φ.s15 (by simpa using h0),
                    s16 := fun h0 => φ.s16 (by simpa using h0),
                    s17 := fun h0 => φ.s17 (by simpa using h0),
                    s18 := fun h0 => φ.s18 (by simpa using h0),
                    s19 := fun h0 => φ.s19 (by simpa using h0),
                    s20 := fun h0 => φ.s20 (by simpa using h0),
                    s21 := fun h0 => φ.s21 (by simpa using h0),
                    s22 := fun h0 => φ.s22 (by simpa using h0) }, rfl⟩
                refine hG ?_
                clear hK φ hG
                revert hk
                simp only [yielded, Region.wanted]
                go_simp
                first | done | exact fun h => h
              case q5 =>
                rintro L vs w' K ⟨u14, u15, u16, u17, u18, u19, u20, u21, u22, u23, u24, u25, u26, u27, u28, u29, u30, u31, u32, u33, u34, u35, u36, wz, rfl, φ, rfl⟩ hL hpre hcl hK G hG
                simp [Region.binds, closedFrom] at hpre hcl
                have e3 := φ.s3 (by simp [hpre])
                subst e3
                have hk := hK [u14, u15, u16, (.bool false), u18, (.pointer (some ⟨X5, 1, none⟩)), u20, u21, u22, u23, u24, u25, u26, u27, u28, u29, u30, u31, u32, u33, u34, u35, u36] wz ⟨_, _, _, _, _, _, _, _, _, _, _, _, _, _, _, _, _, _, _, _, _, _, _, wz, rfl,
                  { b := φ.b,
                    s0 := fun h0 => φ.s0 (by simpa using h0),
                    s1 := fun h0 => φ.s1 (by simpa using h0),
                    s2 := fun h0 => φ.s2 (by simpa using h0),
                    s3 := fun h0 => φ.s3 (by simpa using h0),
                    s4 := fun h0 => φ.s4 (by simpa using h0),
                    s5 := fun _ => rfl,
                    s6 := fun h0 => φ.s6 (by simpa using h0),
                    s7 := fun h0 => φ.s7 (by simpa using h0),
                    s8 := fun h0 => φ.s8 (by simpa using h0),
                    s9 := fun h0 => φ.s9 (by simpa using h0),
                    s10 := fun h0 => φ.s10 (by simpa using h0),
                    s11 := fun h0 => φ.s11 (by simpa using h0),
                    s12 := fun h0 => φ.s12 (by simpa using h0),
                    s13 := fun h0 => φ.s13 (by simpa using h0),
                    s14 := fun h0 => φ.s14 (by simpa using h0),
                    s15 := fun h0 => φ.s15 (by simpa using h0),
                    s16 := fun h0 => φ.s16 (by simpa using h0),
                    s17 := fun h0 => φ.s17 (by simpa using h0),
                    s18 := fun h0 => φ.s18 (by simpa using h0),
                    s19 := fun h0 => φ.s19 (by simpa using h0),
                    s20 := fun h0 => φ.s20 (by simpa using h0),
                    s21 := fun h0 => φ.s21 (by simpa using h0),
                    s22 := fun h0 => φ.s22 (by simpa using h0) }, rfl⟩
                refine hG ?_
                clear hK φ hG
                revert hk
                simp only [yielded, Region.wanted]
                go_simp
                first | done | exact fun h => h
              case q6 =>
                rintro L vs w' K ⟨u14, u15, u16, u17, u18, u19, u20, u21, u22, u23, u24, u25, u26, u27, u28, u29, u30, u31, u32, u33, u34, u35, u36, wz, rfl, φ, rfl⟩ hL hpre hcl hK G hG
                simp [Region.binds, closedFrom] at hpre hcl
                have e3 := φ.s3 (by simp [hpre])
                subst e3
                have e5 := φ.s5 (by simp [hpre])
                subst e5
                have ce0 := (φ.b.cell (p := ⟨X5, 1, none⟩) lt5).trans x1
                have hk := hK [u14, u15, u16, (.bool false), u18, (.pointer (some ⟨X5, 1, none⟩)), (.int .i64 x.which), u21, u22, u23, u24, u25, u26, u27, u28, u29, u30, u31, u32, u33, u34, u35, u36] wz ⟨_, _, _, _, _, _, _, _, _, _, _, _, _, _, _, _, _, _, _, _, _, _, _, wz, rfl,
                  { b := φ.b,
                    s0 := fun h0 => φ.s0 (by simpa using h0),
                    s1 := fun h0 => φ.s1 (by simpa using h0),
                    s2 := fun h0 => φ.s2 (by simpa using h0),
                    s3 := fun h0 => φ.s3 (by simpa using h0),
                    s4 := fun h0 => φ.s4 (by simpa using h0),
                    s5 := fun h0 => φ.s5 (by simpa using h0),
                    s6 := fun _ => rfl,
                    s7 := fun h0 => φ.s7 (by simpa using h0),
                    s8 := fun h0 => φ.s8 (by simpa using h0),
                    s9 := fun h0 => φ.s9 (by simpa using h0),
                    s10 := fun h0 => φ.s10 (by simpa using h0),
                    s11 := fun h0 => φ.s11 (by simpa using h0),
                    s12 := fun h0 => φ.s12 (by simpa using h0),
                    s13 := fun h0 => φ.s13 (by simpa using h0),
                    s14 := fun h0 => φ.s14 (by simpa using h0),
                    s15 := fun h0 => φ.s15 (by simpa using h0),
                    s16 := fun h0 => φ.s16 (by simpa using h0),
                    s17 := fun h0 => φ.s17 (by simpa using h0),
                    s18 := fun h0 => φ.s18 (by simpa using h0),
                    s19 := fun h0 => φ.s19 (by simpa using h0),
                    s20 := fun h0 => φ.s20 (by simpa using h0),
                    s21 := fun h0 => φ.s21 (by simpa using h0),
                    s22 := fun h0 => φ.s22 (by simpa using h0) }, rfl⟩
                refine hG ?_
                clear hK φ hG
                revert hk
                simp only [yielded, Region.wanted]
                go_simp
                first | done | exact fun h => h
              case q7 =>
                rintro L vs w' K ⟨u14, u15, u16, u17, u18, u19, u20, u21, u22, u23, u24, u25, u26, u27, u28, u29, u30, u31, u32, u33, u34, u35, u36, wz, rfl, φ, rfl⟩ hL hpre hcl hK G hG
                simp [Region.binds, closedFrom] at hpre hcl
                have e3 := φ.s3 (by simp [hpre])
                subst e3
                have e4 := φ.s4 (by simp [hpre])
                subst e4
                have e6 := φ.s6 (by simp [hpre])
                subst e6
                have hf := look wz φ.b
                have hk := hK [u14, u15, u16, (.bool false), (.map (some w.heap.size)), u19, (.int .i64 x.which), (.bool false), u22, u23, u24, u25, u26, u27, u28, u29, u30, u31, u32, u33, u34, u35, u36] wz ⟨_, _, _, _, _, _, _, _, _, _, _, _, _, _, _, _, _, _, _, _, _, _, _, wz, rfl,
                  { b := φ.b,
                    s0 := fun h0 => φ.s0 (by simpa using h0),
                    s1 := fun h0 => φ.s1 (by simpa using h0),
                    s2 := fun h0 => φ.s2 (by simpa using h0),
                    s3 := fun h0 => φ.s3 (by simpa using h0),
                    s4 := fun h0 => φ.s4 (by simpa using h0),
                    s5 := fun h0 => φ.s5 (by simpa using h0),
                    s6 := fun h0 => φ.s6 (by simpa using h0),
                    s7 := fun _ => rfl,
                    s8 := fun h0 => φ.s8 (by simpa using h0),
                    s9 := fun h0 => φ.s9 (by simpa using h0),
                    s10 := fun h0 => φ.s10 (by simpa using h0),
                    s11 := fun h0 => φ.s11 (by simpa using h0),
                    s12 := fun h0 => φ.s12 (by simpa using h0),
                    s13 := fun h0 => φ.s13 (by simpa using h0),
                    s14 := fun h0 => φ.s14 (by simpa using h0),
                    s15 := fun h0 => φ.s15 (by simpa using h0),
                    s16 := fun h0 => φ.s16 (by simpa using h0),
                    s17 := fun h0 => φ.s17 (by simpa using h0),
                    s18 := fun h0 => φ.s18 (by simpa using h0),
                    s19 := fun h0 => φ.s19 (by simpa using h0),
                    s20 := fun h0 => φ.s20 (by simpa using h0),
                    s21 := fun h0 => φ.s21 (by simpa using h0),
                    s22 := fun h0 => φ.s22 (by simpa using h0) }, rfl⟩
                refine hG ?_
                clear hK φ hG
                revert hk
                simp only [yielded, Region.wanted]
                go_simp
                first | done | exact fun h => h
              case q8 =>
                rintro L vs w' K ⟨u14, u15, u16, u17, u18, u19, u20, u21, u22, u23, u24, u25, u26, u27, u28, u29, u30, u31, u32, u33, u34, u35, u36, wz, rfl, φ, rfl⟩ hL hpre hcl hK G hG
                simp [Region.binds, closedFrom] at hpre hcl
                have e3 := φ.s3 (by simp [hpre])
                subst e3
                have e7 := φ.s7 (by simp [hpre])
                subst e7
                have hk := hK [u14, u15, u16, (.bool false), u18, u19, u20, (.bool false), (.bool false), u23, u24, u25, u26, u27, u28, u29, u30, u31, u32, u33, u34, u35, u36] wz ⟨_, _, _, _, _, _, _, _, _, _, _, _, _, _, _, _, _, _, _, _, _, _, _, wz, rfl,
                  { b := φ.b,
                    s0 := fun h0 => φ.s0 (by simpa using h0),
                    s1 := fun h0 => φ.s1 (by simpa using h0),
                    s2 := fun h0 => φ.s2 (by simpa using h0),
                    s3 := fun h0 => φ.s3 (by simpa using h0),
                    s4 := fun h0 => φ.s4 (by simpa using h0),
                    s5 := fun h0 => φ.s5 (by simpa using h0),
                    s6 := fun h0 => φ.s6 (by simpa using h0),
                    s7 := fun h0 => φ.s7 (by simpa using h0),
                    s8 := fun _ => rfl,
                    s9 := fun h0 => φ.s9 (by simpa using h0),
                    s10 := fun h0 => φ.s10 (by simpa using h0),
                    s11 := fun h0 => φ.s11 (by simpa using h0),
                    s12 := fun h0 => φ.s12 (by simpa using h0),
                    s13 := fun h0 => φ.s13 (by simpa using h0),
                    s14 := fun h0 => φ.s14 (by simpa using h0),
                    s15 := fun h0 => φ.s15 (by simpa using h0),
                    s16 := fun h0 => φ.s16 (by simpa using h0),
                    s17 := fun h0 => φ.s17 (by simpa using h0),
                    s18 := fun h0 => φ.s18 (by simpa using h0),
                    s19 := fun h0 => φ.s19 (by simpa using h0),
                    s20 := fun h0 => φ.s20 (by simpa using h0),
                    s21 := fun h0 => φ.s21 (by simpa using h0),
                    s22 := fun h0 => φ.s22 (by simpa using h0) }, rfl⟩
                refine hG ?_
                clear hK φ hG
                revert hk
                go_simp
                first | done | exact fun h => h
              case q9 =>
                rintro L vs w' K ⟨u14, u15, u16, u17, u18, u19, u20, u21, u22, u23, u24, u25, u26, u27, u28, u29, u30, u31, u32, u33, u34, u35, u36, wz, rfl, φ, rfl⟩ hL hpre hcl hK G hG
                simp [Region.binds, closedFrom] at hpre hcl
                have e8 := φ.s8 (by simp [hpre])
                subst e8
                have hk := hK [u14, u15, u16, u17, u18, u19, u20, u21, (.bool false), (.bool false), u24, u25, u26, u27, u28, u29, u30, u31, u32, u33, u34, u35, u36] wz ⟨_, _, _, _, _, _, _, _, _, _, _, _, _, _, _, _, _, _, _, _, _, _, _, wz, rfl,
                  { b := φ.b,
                    s0 := fun h0 => φ.s0 (by simpa using h0),
                    s1 := fun h0 => φ.s1 (by simpa using h0),
                    s2 := fun h0 => φ.s2 (by simpa using h0),
                    s3 := fun h0 => φ.s3 (by simpa using h0),
                    s4 := fun h0 => φ.s4 (by simpa using h0),
                    s5 := fun h0 => φ.s5 (by simpa using h0),
                    s6 := fun h0 => φ.s6 (by simpa using h0),
                    s7 := fun h0 => φ.s7 (by simpa using h0),
                    s8 := fun h0 => φ.s8 (by simpa using h0),
                    s9 := fun _ => rfl,
                    s10 := fun h0 => φ.s10 (by simpa using h0),
                    s11 := fun h0 => φ.s11 (by simpa using h0),
                    s12 := fun h0 => φ.s12 (by simpa using h0),
                    s13 := fun h0 => φ.s13 (by simpa using h0),
                    s14 := fun h0 => φ.s14 (by simpa using h0),
                    s15 := fun h0 => φ.s15 (by simpa using h0),
                    s16 := fun h0 => φ.s16 (by simpa using h0),
                    s17 := fun h0 => φ.s17 (by simpa using h0),
                    s18 := fun h0 => φ.s18 (by simpa using h0),
                    s19 := fun h0 => φ.s19 (by simpa using h0),
                    s20 := fun h0 => φ.s20 (by simpa using h0),
                    s21 := fun h0 => φ.s21 (by simpa using h0),
                    s22 := fun h0 => φ.s22 (by simpa using h0) }, rfl⟩
                refine hG ?_
                clear hK φ hG
                revert hk
                go_simp
                first | done | exact fun h => h
              case q10 =>
                rintro L vs w' K ⟨u14, u15, u16, u17, u18, u19, u20, u21, u22, u23, u24, u25, u26, u27, u28, u29, u30, u31, u32, u33, u34, u35, u36, wz, rfl, φ, rfl⟩ hL hpre hcl hK G hG
                simp [Region.binds, closedFrom] at hpre hcl
                have e9 := φ.s9 (by simp [hpre])
                subst e9
                have hk := hK [u14, u15, u16, u17, u18, u19, u20, u21, u22, (.bool false), (.int .i64 (kk : Int)), u25, u26, u27, u28, u29, u30, u31, u32, u33, u34, u35, u36] wz ⟨_, _, _, _, _, _, _, _, _, _, _, _, _, _, _, _, _, _, _, _, _, _, _, wz, rfl,
                  { b := φ.b,
                    s0 := fun h0 => φ.s0 (by simpa using h0),
                    s1 := fun h0 => φ.s1 (by simpa using h0),
                    s2 := fun h0 => φ.s2 (by simpa using h0),
                    s3 := fun h0 => φ.s3 (by simpa using h0),
                    s4 := fun h0 => φ.s4 (by simpa using h0),
                    s5 := fun h0 => φ.s5 (by simpa using h0),
                    s6 := fun h0 => φ.s6 (by simpa using h0),
                    s7 := fun h0 => φ.s7 (by simpa using h0),
                    s8 := fun h0 => φ.s8 (by simpa using h0),
                    s9 := fun h0 => φ.s9 (by simpa using h0),
                    s10 := fun _ => rfl,
                    s11 := fun h0 => φ.s11 (by simpa using h0),
                    s12 := fun h0 => φ.s12 (by simpa using h0),
                    s13 := fun h0 => φ.s13 (by simpa using h0),
                    s14 := fun h0 => φ.s14 (by simpa using h0),
                    s15 := fun h0 => φ.s15 (by simpa using h0),
                    s16 := fun h0 => φ.s16 (by simpa using h0),
                    s17 := fun h0 => φ.s17 (by simpa using h0),
                    s18 := fun h0 => φ.s18 (by simpa using h0),
                    s19 := fun h0 => φ.s19 (by simpa using h0),
                    s20 := fun h0 => φ.s20 (by simpa using h0),
                    s21 := fun h0 => φ.s21 (by simpa using h0),
                    s22 := fun h0 => φ.s22 (by simpa using h0) }, rfl⟩
                refine hG ?_
                clear hK φ hG
                revert hk
                simp only [yielded, Region.wanted]
                go_simp
                first | done | exact fun h => h
              case q11 =>
                rintro L vs w' K ⟨u14, u15, u16, u17, u18, u19, u20, u21, u22, u23, u24, u25, u26, u27, u28, u29, u30, u31, u32, u33, u34, u35, u36, wz, rfl, φ, rfl⟩ hL hpre hcl hK G hG
                simp [Region.binds, closedFrom] at hpre hcl
                have e9 := φ.s9 (by simp [hpre])
                subst e9
                have e10 := φ.s10 (by simp [hpre])
                subst e10
                have hk := hK [u14, u15, u16, u17, u18, u19, u20, u21, u22, (.bool false), (.int .i64 (kk : Int)), (.bool true), u26, u27, u28, u29, u30, u31, u32, u33, u34, u35, u36] wz ⟨_, _, _, _, _, _, _, _, _, _, _, _, _, _, _, _, _, _, _, _, _, _, _, wz, rfl,
                  { b := φ.b,
                    s0 := fun h0 => φ.s0 (by simpa using h0),
                    s1 := fun h0 => φ.s1 (by simpa using h0),
                    s2 := fun h0 => φ.s2 (by simpa using h0),
                    s3 := fun h0 => φ.s3 (by simpa using h0),
                    s4 := fun h0 => φ.s4 (by simpa using h0),
                    s5 := fun h0 => φ.s5 (by simpa using h0),
                    s6 := fun h0 => φ.s6 (by simpa using h0),
                    s7 := fun h0 => φ.s7 (by simpa using h0),
                    s8 := fun h0 => φ.s8 (by simpa using h0),
                    s9 := fun h0 => φ.s9 (by simpa using h0),
                    s10 := fun h0 => φ.s10 (by simpa using h0),
                    s11 := fun _ => rfl,
                    s12 := fun h0 => φ.s12 (by simpa using h0),
                    s13 := fun h0 => φ.s13 (by simpa using h0),
                    s14 := fun h0 => φ.s14 (by simpa using h0),
                    s15 := fun h0 => φ.s15 (by simpa using h0),
                    s16 := fun h0 => φ.s16 (by simpa using h0),
                    s17 := fun h0 => φ.s17 (by simpa using h0),
                    s18 := fun h0 => φ.s18 (by simpa using h0),
                    s19 := fun h0 => φ.s19 (by simpa using h0),
                    s20 := fun h0 => φ.s20 (by simpa using h0),
                    s21 := fun h0 => φ.s21 (by simpa using h0),
                    s22 := fun h0 => φ.s22 (by simpa using h0) }, rfl⟩
                refine hG ?_
                clear hK φ hG
                revert hk
                simp only [yielded, Region.wanted]
                go_simp
                first | done | exact fun h => h
              case q12 =>
                rintro L vs w' K ⟨u14, u15, u16, u17, u18, u19, u20, u21, u22, u23, u24, u25, u26, u27, u28, u29, u30, u31, u32, u33, u34, u35, u36, wz, rfl, φ, rfl⟩ hL hpre hcl hK G hG
                simp [Region.binds, closedFrom] at hpre hcl
                have e9 := φ.s9 (by simp [hpre])
                subst e9
                have e11 := φ.s11 (by simp [hpre])
                subst e11
                have hk := hK [u14, u15, u16, u17, u18, u19, u20, u21, u22, (.bool false), u24, (.bool true), (.bool true), u27, u28, u29, u30, u31, u32, u33, u34, u35, u36] wz ⟨_, _, _, _, _, _, _, _, _, _, _, _, _, _, _, _, _, _, _, _, _, _, _, wz, rfl,
                  { b := φ.b,
                    s0 := fun h0 => φ.s0 (by simpa using h0),
                    s1 := fun h0 => φ.s1 (by simpa using h0),
                    s2 := fun h0 => φ.s2 (by simpa using h0),
                    s3 := fun h0 => φ.s3 (by simpa using h0),
                    s4 := fun h0 => φ.s4 (by simpa using h0),
                    s5 := fun h0 => φ.s5 (by simpa using h0),
                    s6 := fun h0 => φ.s6 (by simpa using h0),
                    s7 := fun h0 => φ.s7 (by simpa using h0),
                    s8 := fun h0 => φ.s8 (by simpa using h0),
                    s9 := fun h0 => φ.s9 (by simpa using h0),
                    s10 := fun h0 => φ.s10 (by simpa using h0),
                    s11 := fun h0 => φ.s11 (by simpa using h0),
                    s12 := fun _ => rfl,
                    s13 := fun h0 => φ.s13 (by simpa using h0),
                    s14 := fun h0 => φ.s14 (by simpa using h0),
                    s15 := fun h0 => φ.s15 (by simpa using h0),
                    s16 := fun h0 => φ.s16 (by simpa using h0),
                    s17 := fun h0 => φ.s17 (by simpa using h0),
                    s18 := fun h0 => φ.s18 (by simpa using h0),
                    s19 := fun h0 => φ.s19 (by simpa using h0),
                    s20 := fun h0 => φ.s20 (by simpa using h0),
                    s21 := fun h0 => φ.s21 (by simpa using h0),
                    s22 := fun h0 => φ.s22 (by simpa using h0) }, rfl⟩
                refine hG ?_
                clear hK φ hG
                revert hk
                simp only [yielded, Region.wanted]
                go_simp
                first | done | exact fun h => h
              case q13 =>
                rintro L vs w' K ⟨u14, u15, u16, u17, u18, u19, u20, u21, u22, u23, u24, u25, u26, u27, u28, u29, u30, u31, u32, u33, u34, u35, u36, wz, rfl, φ, rfl⟩ hL hpre hcl hK G hG
                simp [Region.binds, closedFrom] at hpre hcl
                have e12 := φ.s12 (by simp [hpre])
                subst e12
                have hk := hK [u14, u15, u16, u17, u18, u19, u20, u21, u22, u23, u24, u25, (.bool true), (.slice (some ⟨bb, off, none⟩) n c), u28, u29, u30, u31, u32, u33, u34, u35, u36] wz ⟨_, _, _, _, _, _, _, _, _, _, _, _, _, _, _, _, _, _, _, _, _, _, _, wz, rfl,
                  { b := φ.b,
                    s0 := fun h0 => φ.s0 (by simpa using h0),
                    s1 := fun h0 => φ.s1 (by simpa using h0),
                    s2 := fun h0 => φ.s2 (by simpa using h0),
                    s3 := fun h0 => φ.s3 (by simpa using h0),
                    s4 := fun h0 => φ.s4 (by simpa using h0),
                    s5 := fun h0 => φ.s5 (by simpa using h0),
                    s6 := fun h0 => φ.s6 (by simpa using h0),
                    s7 := fun h0 => φ.s7 (by simpa using h0),
                    s8 := fun h0 => φ.s8 (by simpa using h0),
                    s9 := fun h0 => φ.s9 (by simpa using h0),
                    s10 := fun h0 => φ.s10 (by simpa using h0),
                    s11 := fun h0 => φ.s11 (by simpa using h0),
                    s12 := fun h0 => φ.s12 (by simpa using h0),
                    s13 := fun _ => rfl,
                    s14 := fun h0 => φ.s14 (by simpa using h0),
                    s15 := fun h0 => φ.s15 (by simpa using h0),
                    s16 := fun h0 => φ.s16 (by simpa using h0),
                    s17 := fun h0 => φ.s17 (by simpa using h0),
                    s18 := fun h0 => φ.s18 (by simpa using h0),
                    s19 := fun h0 => φ.s19 (by simpa using h0),
                    s20 := fun h0 => φ.s20 (by simpa using h0),
                    s21 := fun h0 => φ.s21 (by simpa using h0),
                    s22 := fun h0 => φ.s22 (by simpa using h0) }, rfl⟩
                refine hG ?_
                clear hK φ hG
                revert hk
                simp only [yielded, Region.wanted]
                go_simp
                first | done | exact fun h => h
              case q14 =>
                rintro L vs w' K ⟨u14, u15, u16, u17, u18, u19, u20, u21, u22, u23, u24, u25, u26, u27, u28, u29, u30, u31, u32, u33, u34, u35, u36, wz, rfl, φ, rfl⟩ hL hpre hcl hK G hG
                simp [Region.binds, closedFrom] at hpre hcl
                have e12 := φ.s12 (by simp [hpre])
                subst e12
                have hk := hK [u14, u15, u16, u17, u18, u19, u20, u21, u22, u23, u24, u25, (.bool true), u27, (.int .i64 (kk : Int)), u29, u30, u31, u32, u33, u34, u35, u36] wz ⟨_, _, _, _, _, _, _, _, _, _, _, _, _, _, _, _, _, _, _, _, _, _, _, wz, rfl,
                  { b := φ.b,
                    s0 := fun h0 => φ.s0 (by simpa using h0),
                    s1 := fun h0 => φ.s1 (by simpa using h0),
                    s2 := fun h0 => φ.s2 (by simpa using h0),
                    s3 := fun h0 => φ.s3 (by simpa using h0),
                    s4 := fun h0 => φ.s4 (by simpa using h0),
                    s5 := fun h0 => φ.s5 (by simpa using h0),
                    s6 := fun h0 => φ.s6 (by simpa using h0),
                    s7 := fun h0 => φ.s7 (by simpa using h0),
                    s8 := fun h0 => φ.s8 (by simpa using h0),
                    s9 := fun h0 => φ.s9 (by simpa using h0),
                    s10 := fun h0 => φ.s10 (by simpa using h0),
                    s11 := fun h0 => φ.s11 (by simpa using h0),
                    s12 := fun h0 => φ.s12 (by simpa using h0),
                    s13 := fun h0 => φ.s13 (by simpa using h0),
                    s14 := fun _ => rfl,
                    s15 := fun h0 => φ.s15 (by simpa using h0),
                    s16 := fun h0 => φ.s16 (by simpa using h0),
                    s17 := fun h0 => φ.s17 (by simpa using h0),
                    s18 := fun h0 => φ.s18 (by simpa using h0),
                    s19 := fun h0 => φ.s19 (by simpa using h0),
                    s20 := fun h0 => φ.s20 (by simpa using h0),
                    s21 := fun h0 => φ.s21 (by simpa using h0),
                    s22 := fun h0 => φ.s22 (by simpa using h0) }, rfl⟩
                refine hG ?_
                clear hK φ hG
                revert hk
                simp only [yielded, Region.wanted]
                go_simp
                first | done | exact fun h => h
              case q15 =>
                rintro L vs w' K ⟨u14, u15, u16, u17, u18, u19, u20, u21, u22, u23, u24, u25, u26, u27, u28, u29, u30, u31, u32, u33, u34, u35, u36, wz, rfl, φ, rfl⟩ hL hpre hcl hK G hG
                simp [Region.binds, closedFrom] at hpre hcl
                have e12 := φ.s12 (by simp [hpre])
                subst e12
                have e14 := φ.s14 (by simp [hpre])
                subst e14
                have hk := hK [u14, u15, u16, u17, u18, u19, u20, u21, u22, u23, u24, u25, (.bool true), u27, (.int .i64 (kk : Int)), (.int .i64 (k1 : Int)), u30, u31, u32, u33, u34, u35, u36] wz ⟨_, _, _, _, _, _, _, _, _, _, _, _, _, _, _, _, _, _, _, _, _, _, _, wz, rfl,
                  { b := φ.b,
                    s0 := fun h0 => φ.s0 (by simpa using h0),
                    s1 := fun h0 => φ.s1 (by simpa using h0),
                    s2 := fun h0 => φ.s2 (by simpa using h0),
                    s3 := fun h0 => φ.s3 (by simpa using h0),
                    s4 := fun h0 => φ.s4 (by simpa using h0),
                    s5 := fun h0 => φ.s5 (by simpa using h0),
                    s6 := fun h0 => φ.s6 (by simpa using h0),
                    s7 := fun h0 => φ.s7 (by simpa using h0),
                    s8 := fun h0 => φ.s8 (by simpa using h0),
                    s9 := fun h0 => φ.s9 (by simpa using h0),
                    s10 := fun h0 => φ.s10 (by simpa using h0),
                    s11 := fun h0 => φ.s11 (by simpa using h0),
                    s12 := fun h0 => φ.s12 (by simpa using h0),
                    s13 := fun h0 => φ.s13 (by simpa using h0),
                    s14 := fun h0 => φ.s14 (by simpa using h0),
                    s15 := fun _ => rfl,
                    s16 := fun h0 => φ.s16 (by simpa using h0),
                    s17 := fun h0 => φ.s17 (by simpa using h0),
                    s18 := fun h0 => φ.s18 (by simpa using h0),
                    s19 := fun h0 => φ.s19 (by simpa using h0),
                    s20 := fun h0 => φ.s20 (by simpa using h0),
                    s21 := fun h0 => φ.s21 (by simpa using h0),
                    s22 := fun h0 => φ.s22 (by simpa using h0) }, rfl⟩
                refine hG ?_
                clear hK φ hG
                revert hk
                simp only [yielded, Region.wanted]
                go_simp
                first | done | exact fun h => h
              case q16 =>
                rintro L vs w' K ⟨u14, u15, u16, u17, u18, u19, u20, u21, u22, u23, u24, u25, u26, u27, u28, u29, u30, u31, u32, u33, u34, u35, u36, wz, rfl, φ, rfl⟩ hL hpre hcl hK G hG
                simp [Region.binds, closedFrom] at hpre hcl
                have e12 := φ.s12 (by simp [hpre])
                subst e12
                have e13 := φ.s13 (by simp [hpre])
                subst e13
                have e15 := φ.s15 (by simp [hpre])
                subst e15
                have hk := hK [u14, u15, u16, u17, u18, u19, u20, u21, u22, u23, u24, u25, (.bool true), (.slice (some ⟨bb, off, none⟩) n c), u28, (.int .i64 (k1 : Int)), (.pointer (some ⟨bb, off + k1 * 2, none⟩)), u31, u32, u33, u34, u35, u36] wz ⟨_, _, _, _, _, _, _, _, _, _, _, _, _, _, _, _, _, _, _, _, _, _, _, wz, rfl,
                  { b := φ.b,
                    s0 := fun h0 => φ.s0 (by simpa using h0),
                    s1 := fun h0 => φ.s1 (by simpa using h0),
                    s2 := fun h0 => φ.s2 (by simpa using h0),
                    s3 := fun h0 => φ.s3 (by simpa using h0),
                    s4 := fun h0 => φ.s4 (by simpa using h0),
                    s5 := fun h0 => φ.s5 (by simpa using h0),
                    s6 := fun h0 => φ.s6 (by simpa using h0),
                    s7 := fun h0 => φ.s7 (by simpa using h0),
                    s8 := fun h0 => φ.s8 (by simpa using h0),
                    s9 := fun h0 => φ.s9 (by simpa using h0),
                    s10 := fun h0 => φ.s10 (by simpa using h0),
                    s11 := fun h0 => φ.s11 (by simpa using h0),
                    s12 := fun h0 => φ.s12 (by simpa using h0),
                    s13 := fun h0 => φ.s13 (by simpa using h0),
                    s14 := fun h0 => φ.s14 (by simpa using h0),
                    s15 := fun h0 => φ.s15 (by simpa using h0),
                    s16 := fun _ => rfl,
                    s17 := fun h0 => φ.s17 (by simpa using h0),
                    s18 := fun h0 => φ.s18 (by simpa using h0),
                    s19 := fun h0 => φ.s19 (by simpa using h0),
                    s20 := fun h0 => φ.s20 (by simpa using h0),
                    s21 := fun h0 => φ.s21 (by simpa using h0),
                    s22 := fun h0 => φ.s22 (by simpa using h0) }, rfl⟩
                refine hG ?_
                clear hK φ hG
                revert hk
                simp only [yielded, Region.wanted]
                go_simp
                first | done | exact fun h => h
              case q17 =>
                rintro L vs w' K ⟨u14, u15, u16, u17, u18, u19, u20, u21, u22, u23, u24, u25, u26, u27, u28, u29, u30, u31, u32, u33, u34, u35, u36, wz, rfl, φ, rfl⟩ hL hpre hcl hK G hG
                simp [Region.binds, closedFrom] at hpre hcl
                have e12 := φ.s12 (by simp [hpre])
                subst e12
                have e16 := φ.s16 (by simp [hpre])
                subst e16
                have ce0 := (φ.b.cell (p := ⟨bb, off + k1 * 2, none⟩) (World.block_lt_of_cell? _ _ p0)).trans p0
                have ce1 := (φ.b.cell (p := ⟨bb, off + k1 * 2 + 1, none⟩) (World.block_lt_of_cell? _ _ p1)).trans p1
                have hk := hK [u14, u15, u16, u17, u18, u19, u20, u21, u22, u23, u24, u25, (.bool true), u27, u28, u29, (.pointer (some ⟨bb, off + k1 * 2, none⟩)), (.agg #[.int .i64 y.when_, .int .i64 y.which]), u32, u33, u34, u35, u36] wz ⟨_, _, _, _, _, _, _, _, _, _, _, _, _, _, _, _, _, _, _, _, _, _, _, wz, rfl,
                  { b := φ.b,
                    s0 := fun h0 => φ.s0 (by simpa using h0),
                    s1 := fun h0 => φ.s1 (by simpa using h0),
                    s2 := fun h0 => φ.s2 (by simpa using h0),
                    s3 := fun h0 => φ.s3 (by simpa using h0),
                    s4 := fun h0 => φ.s4 (by simpa using h0),
                    s5 := fun h0 => φ.s5 (by simpa using h0),
                    s6 := fun h0 => φ.s6 (by simpa using h0),
                    s7 := fun h0 => φ.s7 (by simpa using h0),
                    s8 := fun h0 => φ.s8 (by simpa using h0),
                    s9 := fun h0 => φ.s9 (by simpa using h0),
                    s10 := fun h0 => φ.s10 (by simpa using h0),
                    s11 := fun h0 => φ.s11 (by simpa using h0),
                    s12 := fun h0 => φ.s12 (by simpa using h0),
                    s13 := fun h0 => φ.s13 (by simpa using h0),
                    s14 := fun h0 => φ.s14 (by simpa using h0),
                    s15 := fun h0 => φ.s15 (by simpa using h0),
                    s16 := fun h0 => φ.s16 (by simpa using h0),
                    s17 := fun _ => rfl,
                    s18 := fun h0 => φ.s18 (by simpa using h0),
                    s19 := fun h0 => φ.s19 (by simpa using h0),
                    s20 := fun h0 => φ.s20 (by simpa using h0),
                    s21 := fun h0 => φ.s21 (by simpa using h0),
                    s22 := fun h0 => φ.s22 (by simpa using h0) }, rfl⟩
                refine hG ?_
                clear hK φ hG
                revert hk
                simp only [yielded, Region.wanted]
                go_simp
                first | done | exact fun h => h
              case q18 =>
                rintro L vs w' K ⟨u14, u15, u16, u17, u18, u19, u20, u21, u22, u23, u24, u25, u26, u27, u28, u29, u30, u31, u32, u33, u34, u35, u36, wz, rfl, φ, rfl⟩ hL hpre hcl hK G hG
                simp [Region.binds, closedFrom] at hpre hcl
                have e12 := φ.s12 (by simp [hpre])
                subst e12
                have ce0 := (φ.b.cell (p := ⟨X5, 0, none⟩) lt5).trans x0
                have ce1 := (φ.b.cell (p := ⟨X5, 1, none⟩) lt5).trans x1
                have hk := hK [u14, u15, u16, u17, u18, u19, u20, u21, u22, u23, u24, u25, (.bool true), u27, u28, u29, u30, u31, (.agg #[.int .i64 x.when_, .int .i64 x.which]), u33, u34, u35, u36] wz ⟨_, _, _, _, _, _, _, _, _, _, _, _, _, _, _, _, _, _, _, _, _, _, _, wz, rfl,
                  { b := φ.b,
                    s0 := fun h0 => φ.s0 (by simpa using h0),
                    s1 := fun h0 => φ.s1 (by simpa using h0),
                    s2 := fun h0 => φ.s2 (by simpa using h0),
                    s3 := fun h0 => φ.s3 (by simpa using h0),
                    s4 := fun h0 => φ.s4 (by simpa using h0),
                    s5 := fun h0 => φ.s5 (by simpa using h0),
                    s6 := fun h0 => φ.s6 (by simpa using h0),
                    s7 := fun h0 => φ.s7 (by simpa using h0),
                    s8 := fun h0 => φ.s8 (by simpa using h0),
                    s9 := fun h0 => φ.s9 (by simpa using h0),
                    s10 := fun h0 => φ.s10 (by simpa using h0),
                    s11 := fun h0 => φ.s11 (by simpa using h0),
                    s12 := fun h0 => φ.s12 (by simpa using h0),
                    s13 := fun h0 => φ.s13 (by simpa using h0),
                    s14 := fun h0 => φ.s14 (by simpa using h0),
                    s15 := fun h0 => φ.s15 (by simpa using h0),
                    s16 := fun h0 => φ.s16 (by simpa using h0),
                    s17 := fun h0 => φ.s17 (by simpa using h0),
                    s18 := fun _ => rfl,
                    s19 := fun h0 => φ.s19 (by simpa using h0),
                    s20 := fun h0 => φ.s20 (by simpa using h0),
                    s21 := fun h0 => φ.s21 (by simpa using h0),
                    s22 := fun h0 => φ.s22 (by simpa using h0) }, rfl⟩
                refine hG ?_
                clear hK φ hG
                revert hk
                simp only [yielded, Region.wanted]
                go_simp
                first | done | exact fun h => h
              case q19 =>
                rintro L vs w' K ⟨u14, u15, u16, u17, u18, u19, u20, u21, u22, u23, u24, u25, u26, u27, u28, u29, u30, u31, u32, u33, u34, u35, u36, wz, rfl, φ, rfl⟩ hL hpre hcl hK G hG
                simp [Region.binds, closedFrom] at hpre hcl
                have e12 := φ.s12 (by simp [hpre])
                subst e12
                have e17 := φ.s17 (by simp [hpre])
                subst e17
                have e18 := φ.s18 (by simp [hpre])
                subst e18
                refine step_callg hG wz (by simp only [yielded, Region.wanted]; go_simp) 28 #[.tmp 31, .tmp 32] #[30, 30] rfl #[.agg #[.int .i64 y.when_, .int .i64 y.which], .agg #[.int .i64 x.when_, .int .i64 x.which]] (by simp [Act.eval, Act.puts, Act.put]) (enters_of Try.func28 (by kernel_rfl) rfl) (cL wz) ?_
                rintro e w9 ⟨rfl, hb9⟩
                refine ⟨_, rfl, ?_⟩
                have hk := hK [u14, u15, u16, u17, u18, u19, u20, u21, u22, u23, u24, u25, (.bool true), u27, u28, u29, u30, (.agg #[.int .i64 y.when_, .int .i64 y.which]), (.agg #[.int .i64 x.when_, .int .i64 x.which]), (.bool false), u34, u35, u36] w9 ⟨_, _, _, _, _, _, _, _, _, _, _, _, _, _, _, _, _, _, _, _, _, _, _, w9, rfl,
                  { b := φ.b.trans (hb9.mono φ.b.size),
                    s0 := fun h0 => φ.s0 (by simpa using h0),
                    s1 := fun h0 => φ.s1 (by simpa using h0),
                    s2 := fun h0 => φ.s2 (by simpa using h0),
                    s3 := fun h0 => φ.s3 (by simpa using h0),
                    s4 := fun h0 => φ.s4 (by simpa using h0),
                    s5 := fun h0 => φ.s5 (by simpa using h0),
                    s6 := fun h0 => φ.s6 (by simpa using h0),
                    s7 := fun h0 => φ.s7 (by simpa using h0),
                    s8 := fun h0 => φ.s8 (by simpa using h0),
                    s9 := fun h0 => φ.s9 (by simpa using h0),
                    s10 := fun h0 => φ.s10 (by simpa using h0),
                    s11 := fun h0 => φ.s11 (by simpa using h0),
                    s12 := fun h0 => φ.s12 (by simpa using h0),
                    s13 := fun h0 => φ.s13 (by simpa using h0),
                    s14 := fun h0 => φ.s14 (by simpa using h0),
                    s15 := fun h0 => φ.s15 (by simpa using h0),
                    s16 := fun h0 => φ.s16 (by simpa using h0),
                    s17 := fun h0 => φ.s17 (by simpa using h0),
                    s18 := fun h0 => φ.s18 (by simpa using h0),
                    s19 := fun _ => rfl,
                    s20 := fun h0 => φ.s20 (by simpa using h0),
                    s21 := fun h0 => φ.s21 (by simpa using h0),
                    s22 := fun h0 => φ.s22 (by simpa using h0) }, rfl⟩
                clear hK φ hG
                revert hk
                go_simp
                first | done | exact fun h => h
              case q20 =>
                rintro L vs w' K ⟨u14, u15, u16, u17, u18, u19, u20, u21, u22, u23, u24, u25, u26, u27, u28, u29, u30, u31, u32, u33, u34, u35, u36, wz, rfl, φ, rfl⟩ hL hpre hcl hK G hG
                simp [Region.binds, closedFrom] at hpre hcl
                have e12 := φ.s12 (by simp [hpre])
                subst e12
                have e19 := φ.s19 (by simp [hpre])
                subst e19
                have hk := hK [u14, u15, u16, u17, u18, u19, u20, u21, u22, u23, u24, u25, (.bool true), u27, u28, u29, u30, u31, u32, (.bool false), (.bool true), u35, u36] wz ⟨_, _, _, _, _, _, _, _, _, _, _, _, _, _, _, _, _, _, _, _, _, _, _, wz, rfl,
                  { b := φ.b,
                    s0 := fun h0 => φ.s0 (by simpa using h0),
                    s1 := fun h0 => φ.s1 (by simpa using h0),
                    s2 := fun h0 => φ.s2 (by simpa using h0),
                    s3 := fun h0 => φ.s3 (by simpa using h0),
                    s4 := fun h0 => φ.s4 (by simpa using h0),
                    s5 := fun h0 => φ.s5 (by simpa using h0),
                    s6 := fun h0 => φ.s6 (by simpa using h0),
                    s7 := fun h0 => φ.s7 (by simpa using h0),
                    s8 := fun h0 => φ.s8 (by simpa using h0),
                    s9 := fun h0 => φ.s9 (by simpa using h0),
                    s10 := fun h0 => φ.s10 (by simpa using h0),
                    s11 := fun h0 => φ.s11 (by simpa using h0),
                    s12 := fun h0 => φ.s12 (by simpa using h0),
                    s13 := fun h0 => φ.s13 (by simpa using h0),
                    s14 := fun h0 => φ.s14 (by simpa using h0),
                    s15 := fun h0 => φ.s15 (by simpa using h0),
                    s16 := fun h0 => φ.s16 (by simpa using h0),
                    s17 := fun h0 => φ.s17 (by simpa using h0),
                    s18 := fun h0 => φ.s18 (by simpa using h0),
                    s19 := fun h0 => φ.s19 (by simpa using h0),
                    s20 := fun _ => rfl,
                    s21 := fun h0 => φ.s21 (by simpa using h0),
                    s22 := fun h0 => φ.s22 (by simpa using h0) }, rfl⟩
                refine hG ?_
                clear hK φ hG
                revert hk
                simp only [yielded, Region.wanted]
                go_simp
                first | done | exact fun h => h
              case q21 =>
                rintro L vs w' K ⟨u14, u15, u16, u17, u18, u19, u20, u21, u22, u23, u24, u25, u26, u27, u28, u29, u30, u31, u32, u33, u34, u35, u36, wz, rfl, φ, rfl⟩ hL hpre hcl hK G hG
                simp [Region.binds, closedFrom] at hpre hcl
                have e9 := φ.s9 (by simp [hpre])
                subst e9
                have e12 := φ.s12 (by simp [hpre])
                subst e12
                have e20 := φ.s20 (by simp [hpre])
                subst e20
                have hk := hK [u14, u15, u16, u17, u18, u19, u20, u21, u22, (.bool false), u24, u25, (.bool true), u27, u28, u29, u30, u31, u32, u33, (.bool true), (.bool true), u36] wz ⟨_, _, _, _, _, _, _, _, _, _, _, _, _, _, _, _, _, _, _, _, _, _, _, wz, rfl,
                  { b := φ.b,
                    s0 := fun h0 => φ.s0 (by simpa using h0),
                    s1 := fun h0 => φ.s1 (by simpa using h0),
                    s2 := fun h0 => φ.s2 (by simpa using h0),
                    s3 := fun h0 => φ.s3 (by simpa using h0),
                    s4 := fun h0 => φ.s4 (by simpa using h0),
                    s5 := fun h0 => φ.s5 (by simpa using h0),
                    s6 := fun h0 => φ.s6 (by simpa using h0),
                    s7 := fun h0 => φ.s7 (by simpa using h0),
                    s8 := fun h0 => φ.s8 (by simpa using h0),
                    s9 := fun h0 => φ.s9 (by simpa using h0),
                    s10 := fun h0 => φ.s10 (by simpa using h0),
                    s11 := fun h0 => φ.s11 (by simpa using h0),
                    s12 := fun h0 => φ.s12 (by simpa using h0),
                    s13 := fun h0 => φ.s13 (by simpa using h0),
                    s14 := fun h0 => φ.s14 (by simpa using h0),
                    s15 := fun h0 => φ.s15 (by simpa using h0),
                    s16 := fun h0 => φ.s16 (by simpa using h0),
                    s17 := fun h0 => φ.s17 (by simpa using h0),
                    s18 := fun h0 => φ.s18 (by simpa using h0),
                    s19 := fun h0 => φ.s19 (by simpa using h0),
                    s20 := fun h0 => φ.s20 (by simpa using h0),
                    s21 := fun _ => rfl,
                    s22 := fun h0 => φ.s22 (by simpa using h0) }, rfl⟩
                refine hG ?_
                clear hK φ hG
                revert hk
                simp only [yielded, Region.wanted]
                go_simp
                first | done | exact fun h => h
              case q22 =>
                rintro L vs w' K ⟨u14, u15, u16, u17, u18, u19, u20, u21, u22, u23, u24, u25, u26, u27, u28, u29, u30, u31, u32, u33, u34, u35, u36, wz, rfl, φ, rfl⟩ hL hpre hcl hK G hG
                simp [Region.binds, closedFrom] at hpre hcl
                have e9 := φ.s9 (by simp [hpre])
                subst e9
                have e21 := φ.s21 (by simp [hpre])
                subst e21
                have hk := hK [u14, u15, u16, u17, u18, u19, u20, u21, u22, (.bool false), u24, u25, u26, u27, u28, u29, u30, u31, u32, u33, u34, (.bool true), (.bool true)] wz ⟨_, _, _, _, _, _, _, _, _, _, _, _, _, _, _, _, _, _, _, _, _, _, _, wz, rfl,
                  { b := φ.b,
                    s0 := fun h0 => φ.s0 (by simpa using h0),
                    s1 := fun h0 => φ.s1 (by simpa using h0),
                    s2 := fun h0 => φ.s2 (by simpa using h0),
                    s3 := fun h0 => φ.s3 (by simpa using h0),
                    s4 := fun h0 => φ.s4 (by simpa using h0),
                    s5 := fun h0 => φ.s5 (by simpa using h0),
                    s6 := fun h0 => φ.s6 (by simpa using h0),
                    s7 := fun h0 => φ.s7 (by simpa using h0),
                    s8 := fun h0 => φ.s8 (by simpa using h0),
                    s9 := fun h0 => φ.s9 (by simpa using h0),
                    s10 := fun h0 => φ.s10 (by simpa using h0),
                    s11 := fun h0 => φ.s11 (by simpa using h0),
                    s12 := fun h0 => φ.s12 (by simpa using h0),
                    s13 := fun h0 => φ.s13 (by simpa using h0),
                    s14 := fun h0 => φ.s14 (by simpa using h0),
                    s15 := fun h0 => φ.s15 (by simpa using h0),
                    s16 := fun h0 => φ.s16 (by simpa using h0),
                    s17 := fun h0 => φ.s17 (by simpa using h0),
                    s18 := fun h0 => φ.s18 (by simpa using h0),
                    s19 := fun h0 => φ.s19 (by simpa using h0),
                    s20 := fun h0 => φ.s20 (by simpa using h0),
                    s21 := fun h0 => φ.s21 (by simpa using h0),
                    s22 := fun _ => rfl }, rfl⟩
                refine hG ?_
                clear hK φ hG
                revert hk
                go_simp
                first | done | exact fun h => h
              case hend =>
                rintro vs w' ⟨u14, u15, u16, u17, u18, u19, u20, u21, u22, u23, u24, u25, u26, u27, u28, u29, u30, u31, u32, u33, u34, u35, u36, wz, rfl, φ, rfl⟩ G hG
                obtain rfl := φ.s22 rfl
                have b9 := φ.b
                clear φ
                refine hG ?_
                clear hG
                have b2 := b.trans (b9.mono b.size)
                clear x0 x1 sm ltM lt5 b9 b bMr neM bM cM
                go_simp
                go_wp2_with fail
                go_ret
                rw [HF.out]
                exact ⟨rfl, b2⟩
            | true =>
              rw [hls] at cL
              have hnew := HOK.out.2 ⟨HM.out, hse, fun _ => hls⟩
              have HNEW := Lib.hid hnew
              clear hls hnew
              have smA := sm
              go_wp2_with fail
              replace sm := sm.below ((Below.refl _ _).alloc (Nat.le_refl _) (.cells #[.int .i64 x.when_, .int .i64 x.which] 30))
              clear smA q0 q1
              have neM : w.heap.size ≠ wr.heap.size := by omega
              have bMr := bM
              replace p0 : (wr.alloc (.cells #[.int .i64 x.when_, .int .i64 x.which] 30)).cell? ⟨bb, off + k1 * 2, none⟩ = some (.int .i64 y.when_) := (World.cell?_alloc_lt wr _ ⟨bb, off + k1 * 2, none⟩ (World.block_lt_of_cell? _ _ p0)).trans p0
              replace p1 : (wr.alloc (.cells #[.int .i64 x.when_, .int .i64 x.which] 30)).cell? ⟨bb, off + k1 * 2 + 1, none⟩ = some (.int .i64 y.which) := (World.cell?_alloc_lt wr _ ⟨bb, off + k1 * 2 + 1, none⟩ (World.block_lt_of_cell? _ _ p1)).trans p1
              have x0 : (wr.alloc (.cells #[.int .i64 x.when_, .int .i64 x.which] 30)).cell? ⟨wr.heap.size, 0, none⟩ = some (.int .i64 x.when_) := World.cell?_alloc_new (w := wr) _ _ _
              have x1 : (wr.alloc (.cells #[.int .i64 x.when_, .int .i64 x.which] 30)).cell? ⟨wr.heap.size, 1, none⟩ = some (.int .i64 x.which) := World.cell?_alloc_new (w := wr) _ _ _
              replace ltM : _ < (wr.alloc (.cells #[.int .i64 x.when_, .int .i64 x.which] 30)).heap.size := Nat.lt_of_lt_of_le ltM (by simp)
              replace b := b.alloc b.size (.cells #[.int .i64 x.when_, .int .i64 x.which] 30)
              have lt5 : wr.heap.size < (wr.alloc (.cells #[.int .i64 x.when_, .int .i64 x.which] 30)).heap.size := by simp
              generalize hw_w1 : wr.alloc (.cells #[.int .i64 x.when_, .int .i64 x.which] 30) = w1 at *
              clear hw_w1
              generalize wr.heap.size = X5 at *
              replace sm := sm.below (Below.refl _ _).drew
              replace b := b.drew
              replace p0 : w1.drew.cell? ⟨bb, off + k1 * 2, none⟩ = some (.int .i64 y.when_) := p0
              replace p1 : w1.drew.cell? ⟨bb, off + k1 * 2 + 1, none⟩ = some (.int .i64 y.which) := p1
              replace x0 : w1.drew.cell? ⟨X5, 0, none⟩ = some (.int .i64 x.when_) := x0
              replace x1 : w1.drew.cell? ⟨X5, 1, none⟩ = some (.int .i64 x.which) := x1
              replace ltM : _ < w1.drew.heap.size := ltM
              replace lt5 : _ < w1.drew.heap.size := lt5
              have look := fun (wz : World) (hb : Below w1.drew.heap.size w1.drew wz) => (sm.below hb).lookup hwf
              rw [decide_eq_false hse] at look
              refine wp_region_rg (by kernel_rfl) (by kernel_rfl) [14, 15, 16, 17, 18, 19, 20, 21, 22, 23, 24, 25, 26, 27, 28, 29, 30, 31, 32, 33, 34, 35, 36] (RtLess1Phi w1.drew w.heap.size X5 bb off n c kk k1 x y) ?h0 ⟨?q0, ?q1, ?q2, ?q3, ?q4, ?q5, ?q6, ?q7, ?q8, ?q9, ?q10, ?q11, ?q12, ?q13, ?q14, ?q15, ?q16, ?q17, ?q18, ?q19, ?q20, ?q21, ?q22, trivial⟩ ?hend
              case h0 => exact ⟨_, _, _, _, _, _, _, _, _, _, _, _, _, _, _, _, _, _, _, _, _, _, _, _, rfl, ⟨Below.refl _ _, (fun h => by cases h), (fun h => by cases h), (fun h => by cases h), (fun h => by cases h), (fun h => by cases h), (fun h => by cases h), (fun h => by cases h), (fun h => by cases h), (fun h => by cases h), (fun h => by cases h), (fun h => by cases h), (fun h => by cases h), (fun h => by cases h), (fun h => by cases h), (fun h => by cases h), (fun h => by cases h), (fun h => by cases h), (fun h => by cases h), (fun h => by cases h), (fun h => by cases h), (fun h => by cases h), (fun h => by cases h), (fun h => by cases h)⟩, rfl⟩
              case q0 =>
                rintro L vs w' K ⟨u14, u15, u16, u17, u18, u19, u20, u21, u22, u23, u24, u25, u26, u27, u28, u29, u30, u31, u32, u33, u34, u35, u36, wz, rfl, φ, rfl⟩ hL hpre hcl hK G hG
                simp [Region.binds, closedFrom] at hpre hcl
                have ce0 := (φ.b.cell (p := ⟨X5, 0, none⟩) lt5).trans x0
                have ce1 := (φ.b.cell (p := ⟨X5, 1, none⟩) lt5).trans x1
                have hk := hK [(.agg #[.int .i64 x.when_, .int .i64 x.which]), u15, u16, u17, u18, u19, u20, u21, u22, u23, u24, u25, u26, u27, u28, u29, u30, u31, u32, u33, u34, u35, u36] wz ⟨_, _, _, _, _, _, _, _, _, _, _, _, _, _, _, _, _, _, _, _, _, _, _, wz, rfl,
                  { b := φ.b,
                    s0 := fun _ => rfl,
                    s1 := fun h0 => φ.s1 (by simpa using h0),
                    s2 := fun h0 => φ.s2 (by simpa using h0),
                    s3 := fun h0 => φ.s3 (by simpa using h0),
                    s4 := fun h0 => φ.s4 (by simpa using h0),
                    s5 := fun h0 => φ.s5 (by simpa using h0),
                    s6 := fun h0 => φ.s6 (by simpa using h0),
                    s7 := fun h0 => φ.s7 (by simpa using h0),
                    s8 := fun h0 => φ.s8 (by simpa using h0),
                    s9 := fun h0 => φ.s9 (by simpa using h0),
                    s10 := fun h0 => φ.s10 (by simpa using h0),
                    s11 := fun h0 => φ.s11 (by simpa using h0),
                    s12 := fun h0 => φ.s12 (by simpa using h0),
                    s13 := fun h0 => φ.s13 (by simpa using h0),
                    s14 := fun h0 => φ.s14 (by simpa using h0),
                    s15 := fun h0 => φ.s15 (by simpa using h0),
                    s16 := fun h0 => φ.s16 (by simpa using h0),
                    s17 := fun h0 => φ.s17 (by simpa using h0),
                    s18 := fun h0 => φ.s18 (by simpa using h0),
                    s19 := fun h0 => φ.s19 (by simpa using h0),
                    s20 := fun h0 => φ.s20 (by simpa using h0),
                    s21 := fun h0 => φ.s21 (by simpa using h0),
                    s22 := fun h0 => φ.s22 (by simpa using h0) }, rfl⟩
                refine hG ?_
                clear hK φ hG
                revert hk
                go_simp
                first | done | exact fun h => h
              case q1 =>
                rintro L vs w' K ⟨u14, u15, u16, u17, u18, u19, u20, u21, u22, u23, u24, u25, u26, u27, u28, u29, u30, u31, u32, u33, u34, u35, u36, wz, rfl, φ, rfl⟩ hL hpre hcl hK G hG
                simp [Region.binds, closedFrom] at hpre hcl
                have e0 := φ.s0 (by simp [hpre])
                subst e0
                refine step_callg hG wz (by rfl) 20 #[.tmp 14] #[30] rfl #[.agg #[.int .i64 x.when_, .int .i64 x.which]] (by simp [Act.eval, Act.puts, Act.put]) (enters_of Try.func20 (by kernel_rfl) rfl) (cM wz) ?_
                rintro e w9 ⟨rfl, hb9⟩
                refine ⟨_, rfl, ?_⟩
                have hk := hK [(.agg #[.int .i64 x.when_, .int .i64 x.which]), (.bool true), u16, u17, u18, u19, u20, u21, u22, u23, u24, u25, u26, u27, u28, u29, u30, u31, u32, u33, u34, u35, u36] w9 ⟨_, _, _, _, _, _, _, _, _, _, _, _, _, _, _, _, _, _, _, _, _, _, _, w9, rfl,
                  { b := φ.b.trans (hb9.mono φ.b.size),
                    s0 := fun h0 => φ.s0 (by simpa using h0),
                    s1 := fun _ => rfl,
                    s2 := fun h0 => φ.s2 (by simpa using h0),
                    s3 := fun h0 => φ.s3 (by simpa using h0),
                    s4 := fun h0 => φ.s4 (by simpa using h0),
                    s5 := fun h0 => φ.s5 (by simpa using h0),
                    s6 := fun h0 => φ.s6 (by simpa using h0),
                    s7 := fun h0 => φ.s7 (by simpa using h0),
                    s8 := fun h0 => φ.s8 (by simpa using h0),
                    s9 := fun h0 => φ.s9 (by simpa using h0),
                    s10 := fun h0 => φ.s10 (by simpa using h0),
                    s11 := fun h0 => φ.s11 (by simpa using h0),
                    s12 := fun h0 => φ.s12 (by simpa using h0),
                    s13 := fun h0 => φ.s13 (by simpa using h0),
                    s14 := fun h0 => φ.s14 (by simpa using h0),
                    s15 := fun h0 => φ.s15 (by simpa using h0),
                    s16 := fun h0 => φ.s16 (by simpa using h0),
                    s17 := fun h0 => φ.s17 (by simpa using h0),
                    s18 := fun h0 => φ.s18 (by simpa using h0),
                    s19 := fun h0 => φ.s19 (by simpa using h0),
                    s20 := fun h0 => φ.s20 (by simpa using h0),
                    s21 := fun h0 => φ.s21 (by simpa using h0),
                    s22 := fun h0 => φ.s22 (by simpa using h0) }, rfl⟩
                clear hK φ hG
                revert hk
                go_simp
                first | done | exact fun h => h
              case q2 =>
                rintro L vs w' K ⟨u14, u15, u16, u17, u18, u19, u20, u21, u22, u23, u24, u25, u26, u27, u28, u29, u30, u31, u32, u33, u34, u35, u36, wz, rfl, φ, rfl⟩ hL hpre hcl hK G hG
                simp [Region.binds, closedFrom] at hpre hcl
                have e1 := φ.s1 (by simp [hpre])
                subst e1
                have hk := hK [u14, (.bool true), (.bool false), u17, u18, u19, u20, u21, u22, u23, u24, u25, u26, u27, u28, u29, u30, u31, u32, u33, u34, u35, u36] wz ⟨_, _, _, _, _, _, _, _, _, _, _, _, _, _, _, _, _, _, _, _, _, _, _, wz, rfl,
                  { b := φ.b,
                    s0 := fun h0 => φ.s0 (by simpa using h0),
                    s1 := fun h0 => φ.s1 (by simpa using h0),
                    s2 := fun _ => rfl,
                    s3 := fun h0 => φ.s3 (by simpa using h0),
                    s4 := fun h0 => φ.s4 (by simpa using h0),
                    s5 := fun h0 => φ.s5 (by simpa using h0),
                    s6 := fun h0 => φ.s6 (by simpa using h0),
                    s7 := fun h0 => φ.s7 (by simpa using h0),
                    s8 := fun h0 => φ.s8 (by simpa using h0),
                    s9 := fun h0 => φ.s9 (by simpa using h0),
                    s10 := fun h0 => φ.s10 (by simpa using h0),
                    s11 := fun h0 => φ.s11 (by simpa using h0),
                    s12 := fun h0 => φ.s12 (by simpa using h0),
                    s13 := fun h0 => φ.s13 (by simpa using h0),
                    s14 := fun h0 => φ.s14 (by simpa using h0),
                    s15 := fun h0 => φ.s15 (by simpa using h0),
                    s16 := fun h0 => φ.s16 (by simpa using h0),
                    s17 := fun h0 => φ.s17 (by simpa using h0),
                    s18 := fun h0 => φ.s18 (by simpa using h0),
                    s19 := fun h0 => φ.s19 (by simpa using h0),
                    s20 := fun h0 => φ.s20 (by simpa using h0),
                    s21 := fun h0 => φ.s21 (by simpa using h0),
                    s22 := fun h0 => φ.s22 (by simpa using h0) }, rfl⟩
                refine hG ?_
                clear hK φ hG
                revert hk
                go_simp
                first | done | exact fun h => h
              case q3 =>
                rintro L vs w' K ⟨u14, u15, u16, u17, u18, u19, u20, u21, u22, u23, u24, u25, u26, u27, u28, u29, u30, u31, u32, u33, u34, u35, u36, wz, rfl, φ, rfl⟩ hL hpre hcl hK G hG
                simp [Region.binds, closedFrom] at hpre hcl
                have e2 := φ.s2 (by simp [hpre])
                subst e2
                have hk := hK [u14, u15, (.bool false), (.bool false), u18, u19, u20, u21, u22, u23, u24, u25, u26, u27, u28, u29, u30, u31, u32, u33, u34, u35, u36] wz ⟨_, _, _, _, _, _, _, _, _, _, _, _, _, _, _, _, _, _, _, _, _, _, _, wz, rfl,
                  { b := φ.b,
                    s0 := fun h0 => φ.s0 (by simpa using h0),
                    s1 := fun h0 => φ.s1 (by simpa using h0),
                    s2 := fun h0 => φ.s2 (by simpa using h0),
                    s3 := fun _ => rfl,
                    s4 := fun h0 => φ.s4 (by simpa using h0),
                    s5 := fun h0 => φ.s5 (by simpa using h0),
                    s6 := fun h0 => φ.s6 (by simpa using h0),
                    s7 := fun h0 => φ.s7 (by simpa using h0),
                    s8 := fun h0 => φ.s8 (by simpa using h0),
                    s9 := fun h0 => φ.s9 (by simpa using h0),
                    s10 := fun h0 => φ.s10 (by simpa using h0),
                    s11 := fun h0 => φ.s11 (by simpa using h0),
                    s12 := fun h0 => φ.s12 (by simpa using h0),
                    s13 := fun h0 => φ.s13 (by simpa using h0),
                    s14 := fun h0 => φ.s14 (by simpa using h0),
                    s15 := fun h0 => φ.s15 (by simpa using h0),
                    s16 := fun h0 => φ.s16 (by simpa using h0),
                    s17 := fun h0 => φ.s17 (by simpa using h0),
                    s18 := fun h0 => φ.s18 (by simpa using h0),
                    s19 := fun h0 => φ.s19 (by simpa using h0),
                    s20 := fun h0 => φ.s20 (by simpa using h0),
                    s21 := fun h0 => φ.s21 (by simpa using h0),
                    s22 := fun h0 => φ.s22 (by simpa using h0) }, rfl⟩
                refine hG ?_
                clear hK φ hG
                revert hk
                go_simp
                first | done | exact fun h => h
              case q4 =>
                rintro L vs w' K ⟨u14, u15, u16, u17, u18, u19, u20, u21, u22, u23, u24, u25, u26, u27, u28, u29, u30, u31, u32, u33, u34, u35, u36, wz, rfl, φ, rfl⟩ hL hpre hcl hK G hG
                simp [Region.binds, closedFrom] at hpre hcl
                have e3 := φ.s3 (by simp [hpre])
                subst e3
                have hk := hK [u14, u15, u16, (.bool false), (.map (some w.heap.size)), u19, u20, u21, u22, u23, u24, u25, u26, u27, u28, u29, u30, u31, u32, u33, u34, u35, u36] wz ⟨_, _, _, _, _, _, _, _, _, _, _, _, _, _, _, _, _, _, _, _, _, _, _, wz, rfl,
                  { b := φ.b,
                    s0 := fun h0 => φ.s0 (by simpa using h0),
                    s1 := fun h0 => φ.s1 (by simpa using h0),
                    s2 := fun h0 => φ.s2 (by simpa using h0),
                    s3 := fun h0 => φ.s3 (by simpa using h0),
                    s4 := fun _ => rfl,
                    s5 := fun h0 => φ.s5 (by simpa using h0),
                    s6 := fun h0 => φ.s6 (by simpa using h0),
                    s7 := fun h0 => φ.s7 (by simpa using h0),
                    s8 := fun h0 => φ.s8 (by simpa using h0),
                    s9 := fun h0 => φ.s9 (by simpa using h0),
                    s10 := fun h0 => φ.s10 (by simpa using h0),
                    s11 := fun h0 => φ.s11 (by simpa using h0),
                    s12 := fun h0 => φ.s12 (by simpa using h0),
                    s13 := fun h0 => φ.s13 (by simpa using h0),
                    s14 := fun h0 => φ.s14 (by simpa using h0),
                    s15 := fun h0 => φ.s15 (by simpa using h0),
                    s16 := fun h0 => φ.s16 (by simpa using h0),
                    s17 := fun h0 => φ.s17 (by simpa using h0),
                    s18 := fun h0 => φ.s18 (by simpa using h0),
                    s19 := fun h0 => φ.s19 (by simpa using h0),
                    s20 := fun h0 => φ.s20 (by simpa using h0),
                    s21 := fun h0 => φ.s21 (by simpa using h0),
                    s22 := fun h0 => φ.s22 (by simpa using h0) }, rfl⟩
                refine hG ?_
                clear hK φ hG
                revert hk
                simp only [yielded, Region.wanted]
                go_simp
                first | done | exact fun h => h
              case q5 =>
                rintro L vs w' K ⟨u14, u15, u16, u17, u18, u19, u20, u21, u22, u23, u24, u25, u26, u27, u28, u29, u30, u31, u32, u33, u34, u35, u36, wz, rfl, φ, rfl⟩ hL hpre hcl hK G hG
                simp [Region.binds, closedFrom] at hpre hcl
                have e3 := φ.s3 (by simp [hpre])
                subst e3
                have hk := hK [u14, u15, u16, (.bool false), u18, (.pointer (some ⟨X5, 1, none⟩)), u20, u21, u22, u23, u24, u25, u26, u27, u28, u29, u30, u31, u32, u33, u34, u35, u36] wz ⟨_, _, _, _, _, _, _, _, _, _, _, _, _, _, _, _, _, _, _, _, _, _, _, wz, rfl,
                  { b := φ.b,
                    s0 := fun h0 => φ.s0 (by simpa using h0),
                    s1 := fun h0 => φ.s1 (by simpa using h0),
                    s2 := fun h0 => φ.s2 (by simpa using h0),
                    s3 := fun h0 => φ.s3 (by simpa using h0),
                    s4 := fun h0 => φ.s4 (by simpa using h0),
                    s5 := fun _ => rfl,
                    s6 := fun h0 => φ.s6 (by simpa using h0),
                    s7 := fun h0 => φ.s7 (by simpa using h0),
                    s8 := fun h0 => φ.s8 (by simpa using h0),
                    s9 := fun h0 => φ.s9 (by simpa using h0),
                    s10 := fun h0 => φ.s10 (by simpa using h0),
                    s11 := fun h0 => φ.s11 (by simpa using h0),
                    s12 := fun h0 => φ.s12 (by simpa using h0),
                    s13 := fun h0 => φ.s13 (by simpa using h0),
                    s14 := fun h0 => φ.s14 (by simpa using h0),
                    s15 := fun h0 => φ.s15 (by simpa using h0),
                    s16 := fun h0 => φ.s16 (by simpa using h0),
                    s17 := fun h0 => φ.s17 (by simpa using h0),
                    s18 := fun h0 => φ.s18 (by simpa using h0),
                    s19 := fun h0 => φ.s19 (by simpa using h0),
                    s20 := fun h0 => φ.s20 (by simpa using h0),
                    s21 := fun h0 => φ.s21 (by simpa using h0),
                    s22 := fun h0 => φ.s22 (by simpa using h0) }, rfl⟩
                refine hG ?_
                clear hK φ hG
                revert hk
                simp only [yielded, Region.wanted]
                go_simp
                first | done | exact fun h => h
              case q6 =>
                rintro L vs w' K ⟨u14, u15, u16, u17, u18, u19, u20, u21, u22, u23, u24, u25, u26, u27, u28, u29, u30, u31, u32, u33, u34, u35, u36, wz, rfl, φ, rfl⟩ hL hpre hcl hK G hG
                simp [Region.binds, closedFrom] at hpre hcl
                have e3 := φ.s3 (by simp [hpre])
                subst e3
                have e5 := φ.s5 (by simp [hpre])
                subst e5
                have ce0 := (φ.b.cell (p := ⟨X5, 1, none⟩) lt5).trans x1
                have hk := hK [u14, u15, u16, (.bool false), u18, (.pointer (some ⟨X5, 1, none⟩)), (.int .i64 x.which), u21, u22, u23, u24, u25, u26, u27, u28, u29, u30, u31, u32, u33, u34, u35, u36] wz ⟨_, _, _, _, _, _, _, _, _, _, _, _, _, _, _, _, _, _, _, _, _, _, _, wz, rfl,
                  { b := φ.b,
                    s0 := fun h0 => φ.s0 (by simpa using h0),
                    s1 := fun h0 => φ.s1 (by simpa using h0),
                    s2 := fun h0 => φ.s2 (by simpa using h0),
                    s3 := fun h0 => φ.s3 (by simpa using h0),
                    s4 := fun h0 => φ.s4 (by simpa using h0),
                    s5 := fun h0 => φ.s5 (by simpa using h0),
                    s6 := fun _ => rfl,
                    s7 := fun h0 => φ.s7 (by simpa using h0),
                    s8 := fun h0 => φ.s8 (by simpa using h0),
                    s9 := fun h0 => φ.s9 (by simpa using h0),
                    s10 := fun h0 => φ.s10 (by simpa using h0),
                    s11 := fun h0 => φ.s11 (by simpa using h0),
                    s12 := fun h0 => φ.s12 (by simpa using h0),
                    s13 := fun h0 => φ.s13 (by simpa using h0),
                    s14 := fun h0 => φ.s14 (by simpa using h0),
                    s15 := fun h0 => φ.s15 (by simpa using h0),
                    s16 := fun h0 => φ.s16 (by simpa using h0),
                    s17 := fun h0 => φ.s17 (by simpa using h0),
                    s18 := fun h0 => φ.s18 (by simpa using h0),
                    s19 := fun h0 => φ.s19 (by simpa using h0),
                    s20 := fun h0 => φ.s20 (by simpa using h0),
                    s21 := fun h0 => φ.s21 (by simpa using h0),
                    s22 := fun h0 => φ.s22 (by simpa using h0) }, rfl⟩
                refine hG ?_
                clear hK φ hG
                revert hk
                simp only [yielded, Region.wanted]
                go_simp
                first | done | exact fun h => h
              case q7 =>
                rintro L vs w' K ⟨u14, u15, u16, u17, u18, u19, u20, u21, u22, u23, u24, u25, u26, u27, u28, u29, u30, u31, u32, u33, u34, u35, u36, wz, rfl, φ, rfl⟩ hL hpre hcl hK G hG
                simp [Region.binds, closedFrom] at hpre hcl
                have e3 := φ.s3 (by simp [hpre])
                subst e3
                have e4 := φ.s4 (by simp [hpre])
                subst e4
                have e6 := φ.s6 (by simp [hpre])
                subst e6
                have hf := look wz φ.b
                have hk := hK [u14, u15, u16, (.bool false), (.map (some w.heap.size)), u19, (.int .i64 x.which), (.bool false), u22, u23, u24, u25, u26, u27, u28, u29, u30, u31, u32, u33, u34, u35, u36] wz ⟨_, _, _, _, _, _, _, _, _, _, _, _, _, _, _, _, _, _, _, _, _, _, _, wz, rfl,
                  { b := φ.b,
                    s0 := fun h0 => φ.s0 (by simpa using h0),
                    s1 := fun h0 => φ.s1 (by simpa using h0),
                    s2 := fun h0 => φ.s2 (by simpa using h0),
                    s3 := fun h0 => φ.s3 (by simpa using h0),
                    s4 := fun h0 => φ.s4 (by simpa using h0),
                    s5 := fun h0 => φ.s5 (by simpa using h0),
                    s6 := fun h0 => φ.s6 (by simpa using h0),
                    s7 := fun _ => rfl,
                    s8 := fun h0 => φ.s8 (by simpa using h0),
                    s9 := fun h0 => φ.s9 (by simpa using h0),
                    s10 := fun h0 => φ.s10 (by simpa using h0),
                    s11 := fun h0 => φ.s11 (by simpa using h0),
                    s12 := fun h0 => φ.s12 (by simpa using h0),
                    s13 := fun h0 => φ.s13 (by simpa using h0),
                    s14 := fun h0 => φ.s14 (by simpa using h0),
                    s15 := fun h0 => φ.s15 (by simpa using h0),
                    s16 := fun h0 => φ.s16 (by simpa using h0),
                    s17 := fun h0 => φ.s17 (by simpa using h0),
                    s18 := fun h0 => φ.s18 (by simpa using h0),
                    s19 := fun h0 => φ.s19 (by simpa using h0),
                    s20 := fun h0 => φ.s20 (by simpa using h0),
                    s21 := fun h0 => φ.s21 (by simpa using h0),
                    s22 := fun h0 => φ.s22 (by simpa using h0) }, rfl⟩
                refine hG ?_
                clear hK φ hG
                revert hk
                simp only [yielded, Region.wanted]
                go_simp
                first | done | exact fun h => h
              case q8 =>
                rintro L vs w' K ⟨u14, u15, u16, u17, u18, u19, u20, u21, u22, u23, u24, u25, u26, u27, u28, u29, u30, u31, u32, u33, u34, u35, u36, wz, rfl, φ, rfl⟩ hL hpre hcl hK G hG
                simp [Region.binds, closedFrom] at hpre hcl
                have e3 := φ.s3 (by simp [hpre])
                subst e3
                have e7 := φ.s7 (by simp [hpre])
                subst e7
                have hk := hK [u14, u15, u16, (.bool false), u18, u19, u20, (.bool false), (.bool false), u23, u24, u25, u26, u27, u28, u29, u30, u31, u32, u33, u34, u35, u36] wz ⟨_, _, _, _, _, _, _, _, _, _, _, _, _, _, _, _, _, _, _, _, _, _, _, wz, rfl,
                  { b := φ.b,
                    s0 := fun h0 => φ.s0 (by simpa using h0),
                    s1 := fun h0 => φ.s1 (by simpa using h0),
                    s2 := fun h0 => φ.s2 (by simpa using h0),
                    s3 := fun h0 => φ.s3 (by simpa using h0),
                    s4 := fun h0 => φ.s4 (by simpa using h0),
                    s5 := fun h0 => φ.s5 (by simpa using h0),
                    s6 := fun h0 => φ.s6 (by simpa using h0),
                    s7 := fun h0 => φ.s7 (by simpa using h0),
                    s8 := fun _ => rfl,
                    s9 := fun h0 => φ.s9 (by simpa using h0),
                    s10 := fun h0 => φ.s10 (by simpa using h0),
                    s11 := fun h0 => φ.s11 (by simpa using h0),
                    s12 := fun h0 => φ.s12 (by simpa using h0),
                    s13 := fun h0 => φ.s13 (by simpa using h0),
                    s14 := fun h0 => φ.s14 (by simpa using h0),
                    s15 := fun h0 => φ.s15 (by simpa using h0),
                    s16 := fun h0 => φ.s16 (by simpa using h0),
                    s17 := fun h0 => φ.s17 (by simpa using h0),
                    s18 := fun h0 => φ.s18 (by simpa using h0),
                    s19 := fun h0 => φ.s19 (by simpa using h0),
                    s20 := fun h0 => φ.s20 (by simpa using h0),
                    s21 := fun h0 => φ.s21 (by simpa using h0),
                    s22 := fun h0 => φ.s22 (by simpa using h0) }, rfl⟩
                refine hG ?_
                clear hK φ hG
                revert hk
                go_simp
                first | done | exact fun h => h
              case q9 =>
                rintro L vs w' K ⟨u14, u15, u16, u17, u18, u19, u20, u21, u22, u23, u24, u25, u26, u27, u28, u29, u30, u31, u32, u33, u34, u35, u36, wz, rfl, φ, rfl⟩ hL hpre hcl hK G hG
                simp [Region.binds, closedFrom] at hpre hcl
                have e8 := φ.s8 (by simp [hpre])
                subst e8
                have hk := hK [u14, u15, u16, u17, u18, u19, u20, u21, (.bool false), (.bool false), u24, u25, u26, u27, u28, u29, u30, u31, u32, u33, u34, u35, u36] wz ⟨_, _, _, _, _, _, _, _, _, _, _, _, _, _, _, _, _, _, _, _, _, _, _, wz, rfl,
                  { b := φ.b,
                    s0 := fun h0 => φ.s0 (by simpa using h0),
                    s1 := fun h0 => φ.s1 (by simpa using h0),
                    s2 := fun h0 => φ.s2 (by simpa using h0),
                    s3 := fun h0 => φ.s3 (by simpa using h0),
                    s4 := fun h0 => φ.s4 (by simpa using h0),
                    s5 := fun h0 => φ.s5 (by simpa using h0),
                    s6 := fun h0 => φ.s6 (by simpa using h0),
                    s7 := fun h0 => φ.s7 (by simpa using h0),
                    s8 := fun h0 => φ.s8 (by simpa using h0),
                    s9 := fun _ => rfl,
                    s10 := fun h0 => φ.s10 (by simpa using h0),
                    s11 := fun h0 => φ.s11 (by simpa using h0),
                    s12 := fun h0 => φ.s12 (by simpa using h0),
                    s13 := fun h0 => φ.s13 (by simpa using h0),
                    s14 := fun h0 => φ.s14 (by simpa using h0),
                    s15 := fun h0 => φ.s15 (by simpa using h0),
                    s16 := fun h0 => φ.s16 (by simpa using h0),
                    s17 := fun h0 => φ.s17 (by simpa using h0),
                    s18 := fun h0 => φ.s18 (by simpa using h0),
                    s19 := fun h0 => φ.s19 (by simpa using h0),
                    s20 := fun h0 => φ.s20 (by simpa using h0),
                    s21 := fun h0 => φ.s21 (by simpa using h0),
                    s22 := fun h0 => φ.s22 (by simpa using h0) }, rfl⟩
                refine hG ?_
                clear hK φ hG
                revert hk
                go_simp
                first | done | exact fun h => h
              case q10 =>
                rintro L vs w' K ⟨u14, u15, u16, u17, u18, u19, u20, u21, u22, u23, u24, u25, u26, u27, u28, u29, u30, u31, u32, u33, u34, u35, u36, wz, rfl, φ, rfl⟩ hL hpre hcl hK G hG
                simp [Region.binds, closedFrom] at hpre hcl
                have e9 := φ.s9 (by simp [hpre])
                subst e9
                have hk := hK [u14, u15, u16, u17, u18, u19, u20, u21, u22, (.bool false), (.int .i64 (kk : Int)), u25, u26, u27, u28, u29, u30, u31, u32, u33, u34, u35, u36] wz ⟨_, _, _, _, _, _, _, _, _, _, _, _, _, _, _, _, _, _, _, _, _, _, _, wz, rfl,
                  { b := φ.b,
                    s0 := fun h0 => φ.s0 (by simpa using h0),
                    s1 := fun h0 => φ.s1 (by simpa using h0),
                    s2 := fun h0 => φ.s2 (by simpa using h0),
                    s3 := fun h0 => φ.s3 (by simpa using h0),
                    s4 := fun h0 => φ.s4 (by simpa using h0),
                    s5 := fun h0 => φ.s5 (by simpa using h0),
                    s6 := fun h0 => φ.s6 (by simpa using h0),
                    s7 := fun h0 => φ.s7 (by simpa using h0),
                    s8 := fun h0 => φ.s8 (by simpa using h0),
                    s9 := fun h0 => φ.s9 (by simpa using h0),
                    s10 := fun _ => rfl,
                    s11 := fun h0 => φ.s11 (by simpa using h0),
                    s12 := fun h0 => φ.s12 (by simpa using h0),
                    s13 := fun h0 => φ.s13 (by simpa using h0),
                    s14 := fun h0 => φ.s14 (by simpa using h0),
                    s15 := fun h0 => φ.s15 (by simpa using h0),
                    s16 := fun h0 => φ.s16 (by simpa using h0),
                    s17 := fun h0 => φ.s17 (by simpa using h0),
                    s18 := fun h0 => φ.s18 (by simpa using h0),
                    s19 := fun h0 => φ.s19 (by simpa using h0),
                    s20 := fun h0 => φ.s20 (by simpa using h0),
                    s21 := fun h0 => φ.s21 (by simpa using h0),
                    s22 := fun h0 => φ.s22 (by simpa using h0) }, rfl⟩
                refine hG ?_
                clear hK φ hG
                revert hk
                simp only [yielded, Region.wanted]
                go_simp
                first | done | exact fun h => h
              case q11 =>
                rintro L vs w' K ⟨u14, u15, u16, u17, u18, u19, u20, u21, u22, u23, u24, u25, u26, u27, u28, u29, u30, u31, u32, u33, u34, u35, u36, wz, rfl, φ, rfl⟩ hL hpre hcl hK G hG
                simp [Region.binds, closedFrom] at hpre hcl
                have e9 := φ.s9 (by simp [hpre])
                subst e9
                have e10 := φ.s10 (by simp [hpre])
                subst e10
                have hk := hK [u14, u15, u16, u17, u18, u19, u20, u21, u22, (.bool false), (.int .i64 (kk : Int)), (.bool true), u26, u27, u28, u29, u30, u31, u32, u33, u34, u35, u36] wz ⟨_, _, _, _, _, _, _, _, _, _, _, _, _, _, _, _, _, _, _, _, _, _, _, wz, rfl,
                  { b := φ.b,
                    s0 := fun h0 => φ.s0 (by simpa using h0),
                    s1 := fun h0 => φ.s1 (by simpa using h0),
                    s2 := fun h0 => φ.s2 (by simpa using h0),
                    s3 := fun h0 => φ.s3 (by simpa using h0),
                    s4 := fun h0 => φ.s4 (by simpa using h0),
                    s5 := fun h0 => φ.s5 (by simpa using h0),
                    s6 := fun h0 => φ.s6 (by simpa using h0),
                    s7 := fun h0 => φ.s7 (by simpa using h0),
                    s8 := fun h0 => φ.s8 (by simpa using h0),
                    s9 := fun h0 => φ.s9 (by simpa using h0),
                    s10 := fun h0 => φ.s10 (by simpa using h0),
                    s11 := fun _ => rfl,
                    s12 := fun h0 => φ.s12 (by simpa using h0),
                    s13 := fun h0 => φ.s13 (by simpa using h0),
                    s14 := fun h0 => φ.s14 (by simpa using h0),
                    s15 := fun h0 => φ.s15 (by simpa using h0),
                    s16 := fun h0 => φ.s16 (by simpa using h0),
                    s17 := fun h0 => φ.s17 (by simpa using h0),
                    s18 := fun h0 => φ.s18 (by simpa using h0),
                    s19 := fun h0 => φ.s19 (by simpa using h0),
                    s20 := fun h0 => φ.s20 (by simpa using h0),
                    s21 := fun h0 => φ.s21 (by simpa using h0),
                    s22 := fun h0 => φ.s22 (by simpa using h0) }, rfl⟩
                refine hG ?_
                clear hK φ hG
                revert hk
                simp only [yielded, Region.wanted]
                go_simp
                first | done | exact fun h => h
              case q12 =>
                rintro L vs w' K ⟨u14, u15, u16, u17, u18, u19, u20, u21, u22, u23, u24, u25, u26, u27, u28, u29, u30, u31, u32, u33, u34, u35, u36, wz, rfl, φ, rfl⟩ hL hpre hcl hK G hG
                simp [Region.binds, closedFrom] at hpre hcl
                have e9 := φ.s9 (by simp [hpre])
                subst e9
                have e11 := φ.s11 (by simp [hpre])
                subst e11
                have hk := hK [u14, u15, u16, u17, u18, u19, u20, u21, u22, (.bool false), u24, (.bool true), (.bool true), u27, u28, u29, u30, u31, u32, u33, u34, u35, u36] wz ⟨_, _, _, _, _, _, _, _, _, _, _, _, _, _, _, _, _, _, _, _, _, _, _, wz, rfl,
                  { b := φ.b,
                    s0 := fun h0 => φ.s0 (by simpa using h0),
                    s1 := fun h0 => φ.s1 (by simpa using h0),
                    s2 := fun h0 => φ.s2 (by simpa using h0),
                    s3 := fun h0 => φ.s3 (by simpa using h0),
                    s4 := fun h0 => φ.s4 (by simpa using h0),
                    s5 := fun h0 => φ.s5 (by simpa using h0),
                    s6 := fun h0 => φ.s6 (by simpa using h0),
                    s7 := fun h0 => φ.s7 (by simpa using h0),
                    s8 := fun h0 => φ.s8 (by simpa using h0),
                    s9 := fun h0 => φ.s9 (by simpa using h0),
                    s10 := fun h0 => φ.s10 (by simpa using h0),
                    s11 := fun h0 => φ.s11 (by simpa using h0),
                    s12 := fun _ => rfl,
                    s13 := fun h0 => φ.s13 (by simpa using h0),
                    s14 := fun h0 => φ.s14 (by simpa using h0),
                    s15 := fun h0 => φ.s15 (by simpa using h0),
                    s16 := fun h0 => φ.s16 (by simpa using h0),
                    s17 := fun h0 => φ.s17 (by simpa using h0),
                    s18 := fun h0 => φ.s18 (by simpa using h0),
                    s19 := fun h0 => φ.s19 (by simpa using h0),
                    s20 := fun h0 => φ.s20 (by simpa using h0),
                    s21 := fun h0 => φ.s21 (by simpa using h0),
                    s22 := fun h0 => φ.s22 (by simpa using h0) }, rfl⟩
                refine hG ?_
                clear hK φ hG
                revert hk
                simp only [yielded, Region.wanted]
                go_simp
                first | done | exact fun h => h
              case q13 =>
                rintro L vs w' K ⟨u14, u15, u16, u17, u18, u19, u20, u21, u22, u23, u24, u25, u26, u27, u28, u29, u30, u31, u32, u33, u34, u35, u36, wz, rfl, φ, rfl⟩ hL hpre hcl hK G hG
                simp [Region.binds, closedFrom] at hpre hcl
                have e12 := φ.s12 (by simp [hpre])
                subst e12
                have hk := hK [u14, u15, u16, u17, u18, u19, u20, u21, u22, u23, u24, u25, (.bool true), (.slice (some ⟨bb, off, none⟩) n c), u28, u29, u30, u31, u32, u33, u34, u35, u36] wz ⟨_, _, _, _, _, _, _, _, _, _, _, _, _, _, _, _, _, _, _, _, _, _, _, wz, rfl,
                  { b := φ.b,
                    s0 := fun h0 => φ.s0 (by simpa using h0),
                    s1 := fun h0 => φ.s1 (by simpa using h0),
                    s2 := fun h0 => φ.s2 (by simpa using h0),
                    s3 := fun h0 => φ.s3 (by simpa using h0),
                    s4 := fun h0 => φ.s4 (by simpa using h0),
                    s5 := fun h0 => φ.s5 (by simpa using h0),
                    s6 := fun h0 => φ.s6 (by simpa using h0),
                    s7 := fun h0 => φ.s7 (by simpa using h0),
                    s8 := fun h0 => φ.s8 (by simpa using h0),
                    s9 := fun h0 => φ.s9 (by simpa using h0),
                    s10 := fun h0 => φ.s10 (by simpa using h0),
                    s11 := fun h0 => φ.s11 (by simpa using h0),
                    s12 := fun h0 => φ.s12 (by simpa using h0),
                    s13 := fun _ => rfl,
                    s14 := fun h0 => φ.s14 (by simpa using h0),
                    s15 := fun h0 => φ.s15 (by simpa using h0),
                    s16 := fun h0 => φ.s16 (by simpa using h0),
                    s17 := fun h0 => φ.s17 (by simpa using h0),
                    s18 := fun h0 => φ.s18 (by simpa using h0),
                    s19 := fun h0 => φ.s19 (by simpa using h0),
                    s20 := fun h0 => φ.s20 (by simpa using h0),
                    s21 := fun h0 => φ.s21 (by simpa using h0),
                    s22 := fun h0 => φ.s22 (by simpa using h0) }, rfl⟩
                refine hG ?_
                clear hK φ hG
                revert hk
                simp only [yielded, Region.wanted]
                go_simp
                first | done | exact fun h => h
              case q14 =>
                rintro L vs w' K ⟨u14, u15, u16, u17, u18, u19, u20, u21, u22, u23, u24, u25, u26, u27, u28, u29, u30, u31, u32, u33, u34, u35, u36, wz, rfl, φ, rfl⟩ hL hpre hcl hK G hG
                simp [Region.binds, closedFrom] at hpre hcl
                have e12 := φ.s12 (by simp [hpre])
                subst e12
                have hk := hK [u14, u15, u16, u17, u18, u19, u20, u21, u22, u23, u24, u25, (.bool true), u27, (.int .i64 (kk : Int)), u29, u30, u31, u32, u33, u34, u35, u36] wz ⟨_, _, _, _, _, _, _, _, _, _, _, _, _, _, _, _, _, _, _, _, _, _, _, wz, rfl,
                  { b := φ.b,
                    s0 := fun h0 => φ.s0 (by simpa using h0),
                    s1 := fun h0 => φ.s1 (by simpa using h0),
                    s2 := fun h0 => φ.s2 (by simpa using h0),
                    s3 := fun h0 => φ.s3 (by simpa using h0),
                    s4 := fun h0 => φ.s4 (by simpa using h0),
                    s5 := fun h0 => φ.s5 (by simpa using h0),
                    s6 := fun h0 => φ.s6 (by simpa using h0),
                    s7 := fun h0 => φ.s7 (by simpa using h0),
                    s8 := fun h0 => φ.s8 (by simpa using h0),
                    s9 := fun h0 => φ.s9 (by simpa using h0),
                    s10 := fun h0 => φ.s10 (by simpa using h0),
                    s11 := fun h0 => φ.s11 (by simpa using h0),
                    s12 := fun h0 => φ.s12 (by simpa using h0),
                    s13 := fun h0 => φ.s13 (by simpa using h0),
                    s14 := fun _ => rfl,
                    s15 := fun h0 => φ.s15 (by simpa using h0),
                    s16 := fun h0 => φ.s16 (by simpa using h0),
                    s17 := fun h0 => φ.s17 (by simpa using h0),
                    s18 := fun h0 => φ.s18 (by simpa using h0),
                    s19 := fun h0 => φ.s19 (by simpa using h0),
                    s20 := fun h0 => φ.s20 (by simpa using h0),
                    s21 := fun h0 => φ.s21 (by simpa using h0),
                    s22 := fun h0 => φ.s22 (by simpa using h0) }, rfl⟩
                refine hG ?_
                clear hK φ hG
                revert hk
                simp only [yielded, Region.wanted]
                go_simp
                first | done | exact fun h => h
              case q15 =>
                rintro L vs w' K ⟨u14, u15, u16, u17, u18, u19, u20, u21, u22, u23, u24, u25, u26, u27, u28, u29, u30, u31, u32, u33, u34, u35, u36, wz, rfl, φ, rfl⟩ hL hpre hcl hK G hG
                simp [Region.binds, closedFrom] at hpre hcl
                have e12 := φ.s12 (by simp [hpre])
                subst e12
                have e14 := φ.s14 (by simp [hpre])
                subst e14
                have hk := hK [u14, u15, u16, u17, u18, u19, u20, u21, u22, u23, u24, u25, (.bool true), u27, (.int .i64 (kk : Int)), (.int .i64 (k1 : Int)), u30, u31, u32, u33, u34, u35, u36] wz ⟨_, _, _, _, _, _, _, _, _, _, _, _, _, _, _, _, _, _, _, _, _, _, _, wz, rfl,
                  { b := φ.b,
                    s0 := fun h0 => φ.s0 (by simpa using h0),
                    s1 := fun h0 => φ.s1 (by simpa using h0),
                    s2 := fun h0 => φ.s2 (by simpa using h0),
                    s3 := fun h0 => φ.s3 (by simpa using h0),
                    s4 := fun h0 => φ.s4 (by simpa using h0),
                    s5 := fun h0 => φ.s5 (by simpa using h0),
                    s6 := fun h0 => φ.s6 (by simpa using h0),
                    s7 := fun h0 => φ.s7 (by simpa using h0),
                    s8 := fun h0 => φ.s8 (by simpa using h0),
                    s9 := fun h0 => φ.s9 (by simpa using h0),
                    s10 := fun h0 => φ.s10 (by simpa using h0),
                    s11 := fun h0 => φ.s11 (by simpa using h0),
                    s12 := fun h0 => φ.s12 (by simpa using h0),
                    s13 := fun h0 => φ.s13 (by simpa using h0),
                    s14 := fun h0 => φ.s14 (by simpa using h0),
                    s15 := fun _ => rfl,
                    s16 := fun h0 => φ.s16 (by simpa using h0),
                    s17 := fun h0 => φ.s17 (by simpa using h0),
                    s18 := fun h0 => φ.s18 (by simpa using h0),
                    s19 := fun h0 => φ.s19 (by simpa using h0),
                    s20 := fun h0 => φ.s20 (by simpa using h0),
                    s21 := fun h0 => φ.s21 (by simpa using h0),
                    s22 := fun h0 => φ.s22 (by simpa using h0) }, rfl⟩
                refine hG ?_
                clear hK φ hG
                revert hk
                simp only [yielded, Region.wanted]
                go_simp
                first | done | exact fun h => h
              case q16 =>
                rintro L vs w' K ⟨u14, u15, u16, u17, u18, u19, u20, u21, u22, u23, u24, u25, u26, u27, u28, u29, u30, u31, u32, u33, u34, u35, u36, wz, rfl, φ, rfl⟩ hL hpre hcl hK G hG
                simp [Region.binds, closedFrom] at hpre hcl
                have e12 := φ.s12 (by simp [hpre])
                subst e12
                have e13 := φ.s13 (by simp [hpre])
                subst e13
                have e15 := φ.s15 (by simp [hpre])
                subst e15
                have hk := hK [u14, u15, u16, u17, u18, u19, u20, u21, u22, u23, u24, u25, (.bool true), (.slice (some ⟨bb, off, none⟩) n c), u28, (.int .i64 (k1 : Int)), (.pointer (some ⟨bb, off + k1 * 2, none⟩)), u31, u32, u33, u34, u35, u36] wz ⟨_, _, _, _, _, _, _, _, _, _, _, _, _, _, _, _, _, _, _, _, _, _, _, wz, rfl,
                  { b := φ.b,
                    s0 := fun h0 => φ.s0 (by simpa using h0),
                    s1 := fun h0 => φ.s1 (by simpa using h0),
                    s2 := fun h0 => φ.s2 (by simpa using h0),
                    s3 := fun h0 => φ.s3 (by simpa using h0),
                    s4 := fun h0 => φ.s4 (by simpa using h0),
                    s5 := fun h0 => φ.s5 (by simpa using h0),
                    s6 := fun h0 => φ.s6 (by simpa using h0),
                    s7 := fun h0 => φ.s7 (by simpa using h0),
                    s8 := fun h0 => φ.s8 (by simpa using h0),
                    s9 := fun h0 => φ.s9 (by simpa using h0),
                    s10 := fun h0 => φ.s10 (by simpa using h0),
                    s11 := fun h0 => φ.s11 (by simpa using h0),
                    s12 := fun h0 => φ.s12 (by simpa using h0),
                    s13 := fun h0 => φ.s13 (by simpa using h0),
                    s14 := fun h0 => φ.s14 (by simpa using h0),
                    s15 := fun h0 => φ.s15 (by simpa using h0),
                    s16 := fun _ => rfl,
                    s17 := fun h0 => φ.s17 (by simpa using h0),
                    s18 := fun h0 => φ.s18 (by simpa using h0),
                    s19 := fun h0 => φ.s19 (by simpa using h0),
                    s20 := fun h0 => φ.s20 (by simpa using h0),
                    s21 := fun h0 => φ.s21 (by simpa using h0),
                    s22 := fun h0 => φ.s22 (by simpa using h0) }, rfl⟩
                refine hG ?_
                clear hK φ hG
                revert hk
                simp only [yielded, Region.wanted]
                go_simp
                first | done | exact fun h => h
              case q17 =>
                rintro L vs w' K ⟨u14, u15, u16, u17, u18, u19, u20, u21, u22, u23, u24, u25, u26, u27, u28, u29, u30, u31, u32, u33, u34, u35, u36, wz, rfl, φ, rfl⟩ hL hpre hcl hK G hG
                simp [Region.binds, closedFrom] at hpre hcl
                have e12 := φ.s12 (by simp [hpre])
                subst e12
                have e16 := φ.s16 (by simp [hpre])
                subst e16
                have ce0 := (φ.b.cell (p := ⟨bb, off + k1 * 2, none⟩) (World.block_lt_of_cell? _ _ p0)).trans p0
                have ce1 := (φ.b.cell (p := ⟨bb, off + k1 * 2 + 1, none⟩) (World.block_lt_of_cell? _ _ p1)).trans p1
                have hk := hK [u14, u15, u16, u17, u18, u19, u20, u21, u22, u23, u24, u25, (.bool true), u27, u28, u29, (.pointer (some ⟨bb, off + k1 * 2, none⟩)), (.agg #[.int .i64 y.when_, .int .i64 y.which]), u32, u33, u34, u35, u36] wz ⟨_, _, _, _, _, _, _, _, _, _, _, _, _, _, _, _, _, _, _, _, _, _, _, wz, rfl,
                  { b := φ.b,
                    s0 := fun h0 => φ.s0 (by simpa using h0),
                    s1 := fun h0 => φ.s1 (by simpa using h0),
                    s2 := fun h0 => φ.s2 (by simpa using h0),
                    s3 := fun h0 => φ.s3 (by simpa using h0),
                    s4 := fun h0 => φ.s4 (by simpa using h0),
                    s5 := fun h0 => φ.s5 (by simpa using h0),
                    s6 := fun h0 => φ.s6 (by simpa using h0),
                    s7 := fun h0 => φ.s7 (by simpa using h0),
                    s8 := fun h0 => φ.s8 (by simpa using h0),
                    s9 := fun h0 => φ.s9 (by simpa using h0),
                    s10 := fun h0 => φ.s10 (by simpa using h0),
                    s11 := fun h0 => φ.s11 (by simpa using h0),
                    s12 := fun h0 => φ.s12 (by simpa using h0),
                    s13 := fun h0 => φ.s13 (by simpa using h0),
                    s14 := fun h0 => φ.s14 (by simpa using h0),
                    s15 := fun h0 => φ.s15 (by simpa using h0),
                    s16 := fun h0 => φ.s16 (by simpa using h0),
                    s17 := fun _ => rfl,
                    s18 := fun h0 => φ.s18 (by simpa using h0),
                    s19 := fun h0 => φ.s19 (by simpa using h0),
                    s20 := fun h0 => φ.s20 (by simpa using h0),
                    s21 := fun h0 => φ.s21 (by simpa using h0),
                    s22 := fun h0 => φ.s22 (by simpa using h0) }, rfl⟩
                refine hG ?_
                clear hK φ hG
                revert hk
                simp only [yielded, Region.wanted]
                go_simp
                first | done | exact fun h => h
              case q18 =>
                rintro L vs w' K ⟨u14, u15, u16, u17, u18, u19, u20, u21, u22, u23, u24, u25, u26, u27, u28, u29, u30, u31, u32, u33, u34, u35, u36, wz, rfl, φ, rfl⟩ hL hpre hcl hK G hG
                simp [Region.binds, closedFrom] at hpre hcl
                have e12 := φ.s12 (by simp [hpre])
                subst e12
                have ce0 := (φ.b.cell (p := ⟨X5, 0, none⟩) lt5).trans x0
                have ce1 := (φ.b.cell (p := ⟨X5, 1, none⟩) lt5).trans x1
                have hk := hK [u14, u15, u16, u17, u18, u19, u20, u21, u22, u23, u24, u25, (.bool true), u27, u28, u29, u30, u31, (.agg #[.int .i64 x.when_, .int .i64 x.which]), u33, u34, u35, u36] wz ⟨_, _, _, _, _, _, _, _, _, _, _, _, _, _, _, _, _, _, _, _, _, _, _, wz, rfl,
                  { b := φ.b,
                    s0 := fun h0 => φ.s0 (by simpa using h0),
                    s1 := fun h0 => φ.s1 (by simpa using h0),
                    s2 := fun h0 => φ.s2 (by simpa using h0),
                    s3 := fun h0 => φ.s3 (by simpa using h0),
                    s4 := fun h0 => φ.s4 (by simpa using h0),
                    s5 := fun h0 => φ.s5 (by simpa using h0),
                    s6 := fun h0 => φ.s6 (by simpa using h0),
                    s7 := fun h0 => φ.s7 (by simpa using h0),
                    s8 := fun h0 => φ.s8 (by simpa using h0),
                    s9 := fun h0 => φ.s9 (by simpa using h0),
                    s10 := fun h0 => φ.s10 (by simpa using h0),
                    s11 := fun h0 => φ.s11 (by simpa using h0),
                    s12 := fun h0 => φ.s12 (by simpa using h0),
                    s13 := fun h0 => φ.s13 (by simpa using h0),
                    s14 := fun h0 => φ.s14 (by simpa using h0),
                    s15 := fun h0 => φ.s15 (by simpa using h0),
                    s16 := fun h0 => φ.s16 (by simpa using h0),
                    s17 := fun h0 => φ.s17 (by simpa using h0),
                    s18 := fun _ => rfl,
                    s19 := fun h0 => φ.s19 (by simpa using h0),
                    s20 := fun h0 => φ.s20 (by simpa using h0),
                    s21 := fun h0 => φ.s21 (by simpa using h0),
                    s22 := fun h0 => φ.s22 (by simpa using h0) }, rfl⟩
                refine hG ?_
                clear hK φ hG
                revert hk
                simp only [yielded, Region.wanted]
                go_simp
                first | done | exact fun h => h
              case q19 =>
                rintro L vs w' K ⟨u14, u15, u16, u17, u18, u19, u20, u21, u22, u23, u24, u25, u26, u27, u28, u29, u30, u31, u32, u33, u34, u35, u36, wz, rfl, φ, rfl⟩ hL hpre hcl hK G hG
                simp [Region.binds, closedFrom] at hpre hcl
                have e12 := φ.s12 (by simp [hpre])
                subst e12
                have e17 := φ.s17 (by simp [hpre])
                subst e17
                have e18 := φ.s18 (by simp [hpre])
                subst e18
                refine step_callg hG wz (by simp only [yielded, Region.wanted]; go_simp) 28 #[.tmp 31, .tmp 32] #[30, 30] rfl #[.agg #[.int .i64 y.when_, .int .i64 y.which], .agg #[.int .i64 x.when_, .int .i64 x.which]] (by simp [Act.eval, Act.puts, Act.put]) (enters_of Try.func28 (by kernel_rfl) rfl) (cL wz) ?_
                rintro e w9 ⟨rfl, hb9⟩
                refine ⟨_, rfl, ?_⟩
                have hk := hK [u14, u15, u16, u17, u18, u19, u20, u21, u22, u23, u24, u25, (.bool true), u27, u28, u29, u30, (.agg #[.int .i64 y.when_, .int .i64 y.which]), (.agg #[.int .i64 x.when_, .int .i64 x.which]), (.bool true), u34, u35, u36] w9 ⟨_, _, _, _, _, _, _, _, _, _, _, _, _, _, _, _, _, _, _, _, _, _, _, w9, rfl,
                  { b := φ.b.trans (hb9.mono φ.b.size),
                    s0 := fun h0 => φ.s0 (by simpa using h0),
                    s1 := fun h0 => φ.s1 (by simpa using h0),
                    s2 := fun h0 => φ.s2 (by simpa using h0),
                    s3 := fun h0 => φ.s3 (by simpa using h0),
                    s4 := fun h0 => φ.s4 (by simpa using h0),
                    s5 := fun h0 => φ.s5 (by simpa using h0),
                    s6 := fun h0 => φ.s6 (by simpa using h0),
                    s7 := fun h0 => φ.s7 (by simpa using h0),
                    s8 := fun h0 => φ.s8 (by simpa using h0),
                    s9 := fun h0 => φ.s9 (by simpa using h0),
                    s10 := fun h0 => φ.s10 (by simpa using h0),
                    s11 := fun h0 => φ.s11 (by simpa using h0),
                    s12 := fun h0 => φ.s12 (by simpa using h0),
                    s13 := fun h0 => φ.s13 (by simpa using h0),
                    s14 := fun h0 => φ.s14 (by simpa using h0),
                    s15 := fun h0 => φ.s15 (by simpa using h0),
                    s16 := fun h0 => φ.s16 (by simpa using h0),
                    s17 := fun h0 => φ.s17 (by simpa using h0),
                    s18 := fun h0 => φ.s18 (by simpa using h0),
                    s19 := fun _ => rfl,
                    s20 := fun h0 => φ.s20 (by simpa using h0),
                    s21 := fun h0 => φ.s21 (by simpa using h0),
                    s22 := fun h0 => φ.s22 (by simpa using h0) }, rfl⟩
                clear hK φ hG
                revert hk
                go_simp
                first | done | exact fun h => h
              case q20 =>
                rintro L vs w' K ⟨u14, u15, u16, u17, u18, u19, u20, u21, u22, u23, u24, u25, u26, u27, u28, u29, u30, u31, u32, u33, u34, u35, u36, wz, rfl, φ, rfl⟩ hL hpre hcl hK G hG
                simp [Region.binds, closedFrom] at hpre hcl
                have e12 := φ.s12 (by simp [hpre])
                subst e12
                have e19 := φ.s19 (by simp [hpre])
                subst e19
                have hk := hK [u14, u15, u16, u17, u18, u19, u20, u21, u22, u23, u24, u25, (.bool true), u27, u28, u29, u30, u31, u32, (.bool true), (.bool false), u35, u36] wz ⟨_, _, _, _, _, _, _, _, _, _, _, _, _, _, _, _, _, _, _, _, _, _, _, wz, rfl,
                  { b := φ.b,
                    s0 := fun h0 => φ.s0 (by simpa using h0),
                    s1 := fun h0 => φ.s1 (by simpa using h0),
                    s2 := fun h0 => φ.s2 (by simpa using h0),
                    s3 := fun h0 => φ.s3 (by simpa using h0),
                    s4 := fun h0 => φ.s4 (by simpa using h0),
                    s5 := fun h0 => φ.s5 (by simpa using h0),
                    s6 := fun h0 => φ.s6 (by simpa using h0),
                    s7 := fun h0 => φ.s7 (by simpa using h0),
                    s8 := fun h0 => φ.s8 (by simpa using h0),
                    s9 := fun h0 => φ.s9 (by simpa using h0),
                    s10 := fun h0 => φ.s10 (by simpa using h0),
                    s11 := fun h0 => φ.s11 (by simpa using h0),
                    s12 := fun h0 => φ.s12 (by simpa using h0),
                    s13 := fun h0 => φ.s13 (by simpa using h0),
                    s14 := fun h0 => φ.s14 (by simpa using h0),
                    s15 := fun h0 => φ.s15 (by simpa using h0),
                    s16 := fun h0 => φ.s16 (by simpa using h0),
                    s17 := fun h0 => φ.s17 (by simpa using h0),
                    s18 := fun h0 => φ.s18 (by simpa using h0),
                    s19 := fun h0 => φ.s19 (by simpa using h0),
                    s20 := fun _ => rfl,
                    s21 := fun h0 => φ.s21 (by simpa using h0),
                    s22 := fun h0 => φ.s22 (by simpa using h0) }, rfl⟩
                refine hG ?_
                clear hK φ hG
                revert hk
                simp only [yielded, Region.wanted]
                go_simp
                first | done | exact fun h => h
              case q21 =>
                rintro L vs w' K ⟨u14, u15, u16, u17, u18, u19, u20, u21, u22, u23, u24, u25, u26, u27, u28, u29, u30, u31, u32, u33, u34, u35, u36, wz, rfl, φ, rfl⟩ hL hpre hcl hK G hG
                simp [Region.binds, closedFrom] at hpre hcl
                have e9 := φ.s9 (by simp [hpre])
                subst e9
                have e12 := φ.s12 (by simp [hpre])
                subst e12
                have e20 := φ.s20 (by simp [hpre])
                subst e20
                have hk := hK [u14, u15, u16, u17, u18, u19, u20, u21, u22, (.bool false), u24, u25, (.bool true), u27, u28, u29, u30, u31, u32, u33, (.bool false), (.bool false), u36] wz ⟨_, _, _, _, _, _, _, _, _, _, _, _, _, _, _, _, _, _, _, _, _, _, _, wz, rfl,
                  { b := φ.b,
                    s0 := fun h0 => φ.s0 (by simpa using h0),
                    s1 := fun h0 => φ.s1 (by simpa using h0),
                    s2 := fun h0 => φ.s2 (by simpa using h0),
                    s3 := fun h0 => φ.s3 (by simpa using h0),
                    s4 := fun h0 => φ.s4 (by simpa using h0),
                    s5 := fun h0 => φ.s5 (by simpa using h0),
                    s6 := fun h0 => φ.s6 (by simpa using h0),
                    s7 := fun h0 => φ.s7 (by simpa using h0),
                    s8 := fun h0 => φ.s8 (by simpa using h0),
                    s9 := fun h0 => φ.s9 (by simpa using h0),
                    s10 := fun h0 => φ.s10 (by simpa using h0),
                    s11 := fun h0 => φ.s11 (by simpa using h0),
                    s12 := fun h0 => φ.s12 (by simpa using h0),
                    s13 := fun h0 => φ.s13 (by simpa using h0),
                    s14 := fun h0 => φ.s14 (by simpa using h0),
                    s15 := fun h0 => φ.s15 (by simpa using h0),
                    s16 := fun h0 => φ.s16 (by simpa using h0),
                    s17 := fun h0 => φ.s17 (by simpa using h0),
                    s18 := fun h0 => φ.s18 (by simpa using h0),
                    s19 := fun h0 => φ.s19 (by simpa using h0),
                    s20 := fun h0 => φ.s20 (by simpa using h0),
                    s21 := fun _ => rfl,
                    s22 := fun h0 => φ.s22 (by simpa using h0) }, rfl⟩
                refine hG ?_
                clear hK φ hG
                revert hk
                simp only [yielded, Region.wanted]
                go_simp
                first | done | exact fun h => h
              case q22 =>
                rintro L vs w' K ⟨u14, u15, u16, u17, u18, u19, u20, u21, u22, u23, u24, u25, u26, u27, u28, u29, u30, u31, u32, u33, u34, u35, u36, wz, rfl, φ, rfl⟩ hL hpre hcl hK G hG
                simp [Region.binds, closedFrom] at hpre hcl
                have e9 := φ.s9 (by simp [hpre])
                subst e9
                have e21 := φ.s21 (by simp [hpre])
                subst e21
                have hk := hK [u14, u15, u16, u17, u18, u19, u20, u21, u22, (.bool false), u24, u25, u26, u27, u28, u29, u30, u31, u32, u33, u34, (.bool false), (.bool false)] wz ⟨_, _, _, _, _, _, _, _, _, _, _, _, _, _, _, _, _, _, _, _, _, _, _, wz, rfl,
                  { b := φ.b,
                    s0 := fun h0 => φ.s0 (by simpa using h0),
                    s1 := fun h0 => φ.s1 (by simpa using h0),
                    s2 := fun h0 => φ.s2 (by simpa using h0),
                    s3 := fun h0 => φ.s3 (by simpa using h0),
                    s4 := fun h0 => φ.s4 (by simpa using h0),
                    s5 := fun h0 => φ.s5 (by simpa using h0),
                    s6 := fun h0 => φ.s6 (by simpa using h0),
                    s7 := fun h0 => φ.s7 (by simpa using h0),
                    s8 := fun h0 => φ.s8 (by simpa using h0),
                    s9 := fun h0 => φ.s9 (by simpa using h0),
                    s10 := fun h0 => φ.s10 (by simpa using h0),
                    s11 := fun h0 => φ.s11 (by simpa using h0),
                    s12 := fun h0 => φ.s12 (by simpa using h0),
                    s13 := fun h0 => φ.s13 (by simpa using h0),
                    s14 := fun h0 => φ.s14 (by simpa using h0),
                    s15 := fun h0 => φ.s15 (by simpa using h0),
                    s16 := fun h0 => φ.s16 (by simpa using h0),
                    s17 := fun h0 => φ.s17 (by simpa using h0),
                    s18 := fun h0 => φ.s18 (by simpa using h0),
                    s19 := fun h0 => φ.s19 (by simpa using h0),
                    s20 := fun h0 => φ.s20 (by simpa using h0),
                    s21 := fun h0 => φ.s21 (by simpa using h0),
                    s22 := fun _ => rfl }, rfl⟩
                refine hG ?_
                clear hK φ hG
                revert hk
                go_simp
                first | done | exact fun h => h
              case hend =>
                rintro vs w' ⟨u14, u15, u16, u17, u18, u19, u20, u21, u22, u23, u24, u25, u26, u27, u28, u29, u30, u31, u32, u33, u34, u35, u36, wz, rfl, φ, rfl⟩ G hG
                obtain rfl := φ.s22 rfl
                have b9 := φ.b
                clear φ
                refine hG ?_
                clear hG
                have b2 := b.trans (b9.mono b.size)
                replace p0 := (b9.cell (p := ⟨bb, off + k1 * 2, none⟩) (World.block_lt_of_cell? _ _ p0)).trans p0
                replace p1 := (b9.cell (p := ⟨bb, off + k1 * 2 + 1, none⟩) (World.block_lt_of_cell? _ _ p1)).trans p1
                replace x0 := (b9.cell (p := ⟨X5, 0, none⟩) (World.block_lt_of_cell? _ _ x0)).trans x0
                replace x1 := (b9.cell (p := ⟨X5, 1, none⟩) (World.block_lt_of_cell? _ _ x1)).trans x1
                replace ltM := Nat.lt_of_lt_of_le ltM b9.size
                replace lt5 := Nat.lt_of_lt_of_le lt5 b9.size
                replace sm := sm.below b9
                obtain ⟨w8, hup, sm8, g8⟩ := sm.update hwf (show kk < maxLen from by unfold maxLen; omega)
                have b8 := b2.grown g8 b2.size (fun k hk => by injection hk with hk; omega)
                clear look sm g8 b2 b b9 cM x0 ltM
                go_simp
                go_wp2_with fail
                go_roundg (n - (kk + 1))
                case measure => omega
                case rel => exact ⟨kk + 1, x.which :: ks, by omega, by omega, by go_num, sm8, (show Aside _ from mem_next HK.out HX.out), (show Aside _ from b8), (show Aside _ from ok_next AA.out HNEW.out)⟩
          · have zk : decide (0 < kk) = false := decide_eq_false hk0
            have hk0z : ¬ (0 : Int) < (kk : Int) := by omega
            have zkz : decide ((0 : Int) < (kk : Int)) = false := decide_eq_false hk0z
            have hnew := HOK.out.2 ⟨HM.out, hse, fun h => absurd h hk0⟩
            have HNEW := Lib.hid hnew
            clear hnew
            have smA := sm
            go_wp2_with fail
            replace sm := sm.below ((Below.refl _ _).alloc (Nat.le_refl _) (.cells #[.int .i64 x.when_, .int .i64 x.which] 30))
            clear smA q0 q1
            have neM : w.heap.size ≠ wr.heap.size := by omega
            have bMr := bM
            have x0 : (wr.alloc (.cells #[.int .i64 x.when_, .int .i64 x.which] 30)).cell? ⟨wr.heap.size, 0, none⟩ = some (.int .i64 x.when_) := World.cell?_alloc_new (w := wr) _ _ _
            have x1 : (wr.alloc (.cells #[.int .i64 x.when_, .int .i64 x.which] 30)).cell? ⟨wr.heap.size, 1, none⟩ = some (.int .i64 x.which) := World.cell?_alloc_new (w := wr) _ _ _
            replace ltM : _ < (wr.alloc (.cells #[.int .i64 x.when_, .int .i64 x.which] 30)).heap.size := Nat.lt_of_lt_of_le ltM (by simp)
            replace b := b.alloc b.size (.cells #[.int .i64 x.when_, .int .i64 x.which] 30)
            have lt5 : wr.heap.size < (wr.alloc (.cells #[.int .i64 x.when_, .int .i64 x.which] 30)).heap.size := by simp
            generalize hw_w1 : wr.alloc (.cells #[.int .i64 x.when_, .int .i64 x.which] 30) = w1 at *
            clear hw_w1
            generalize wr.heap.size = X5 at *
            replace sm := sm.below (Below.refl _ _).drew
            replace b := b.drew
            replace x0 : w1.drew.cell? ⟨X5, 0, none⟩ = some (.int .i64 x.when_) := x0
            replace x1 : w1.drew.cell? ⟨X5, 1, none⟩ = some (.int .i64 x.which) := x1
            replace ltM : _ < w1.drew.heap.size := ltM
            replace lt5 : _ < w1.drew.heap.size := lt5
            have look := fun (wz : World) (hb : Below w1.drew.heap.size w1.drew wz) => (sm.below hb).lookup hwf
            rw [decide_eq_false hse] at look
            refine wp_region_rg (by kernel_rfl) (by kernel_rfl) [14, 15, 16, 17, 18, 19, 20, 21, 22, 23, 24, 25, 26, 27, 28, 29, 30, 31, 32, 33, 34, 35, 36] (RtFirstPhi w1.drew w.heap.size X5 bb off n c kk kk x x) ?h0 ⟨?q0, ?q1, ?q2, ?q3, ?q4, ?q5, ?q6, ?q7, ?q8, ?q9, ?q10, ?q11, ?q12, ?q13, ?q14, ?q15, ?q16, ?q17, ?q18, ?q19, ?q20, ?q21, ?q22, trivial⟩ ?hend
            case h0 => exact ⟨_, _, _, _, _, _, _, _, _, _, _, _, _, _, _, _, _, _, _, _, _, _, _, _, rfl, ⟨Below.refl _ _, (fun h => by cases h), (fun h => by cases h), (fun h => by cases h), (fun h => by cases h), (fun h => by cases h), (fun h => by cases h), (fun h => by cases h), (fun h => by cases h), (fun h => by cases h), (fun h => by cases h), (fun h => by cases h), (fun h => by cases h), (fun h => by cases h), (fun h => by cases h), (fun h => by cases h), (fun h => by cases h), (fun h => by cases h), (fun h => by cases h), (fun h => by cases h), (fun h => by cases h), (fun h => by cases h), (fun h => by cases h), (fun h => by cases h)⟩, rfl⟩
            case q0 =>
              rintro L vs w' K ⟨u14, u15, u16, u17, u18, u19, u20, u21, u22, u23, u24, u25, u26, u27, u28, u29, u30, u31, u32, u33, u34, u35, u36, wz, rfl, φ, rfl⟩ hL hpre hcl hK G hG
              simp [Region.binds, closedFrom] at hpre hcl
              have ce0 := (φ.b.cell (p := ⟨X5, 0, none⟩) lt5).trans x0
              have ce1 := (φ.b.cell (p := ⟨X5, 1, none⟩) lt5).trans x1
              have hk := hK [(.agg #[.int .i64 x.when_, .int .i64 x.which]), u15, u16, u17, u18, u19, u20, u21, u22, u23, u24, u25, u26, u27, u28, u29, u30, u31, u32, u33, u34, u35, u36] wz ⟨_, _, _, _, _, _, _, _, _, _, _, _, _, _, _, _, _, _, _, _, _, _, _, wz, rfl,
                { b := φ.b,
                  s0 := fun _ => rfl,
                  s1 := fun h0 => φ.s1 (by simpa using h0),
                  s2 := fun h0 => φ.s2 (by simpa using h0),
                  s3 := fun h0 => φ.s3 (by simpa using h0),
                  s4 := fun h0 => φ.s4 (by simpa using h0),
                  s5 := fun h0 => φ.s5 (by simpa using h0),
                  s6 := fun h0 => φ.s6 (by simpa using h0),
                  s7 := fun h0 => φ.s7 (by simpa using h0),
                  s8 := fun h0 => φ.s8 (by simpa using h0),
                  s9 := fun h0 => φ.s9 (by simpa using h0),
                  s10 := fun h0 => φ.s10 (by simpa using h0),
                  s11 := fun h0 => φ.s11 (by simpa using h0),
                  s12 := fun h0 => φ.s12 (by simpa using h0),
                  s13 := fun h0 => φ.s13 (by simpa using h0),
                  s14 := fun h0 => φ.s14 (by simpa using h0),
                  s15 := fun h0 => φ.s15 (by simpa using h0),
                  s16 := fun h0 => φ.s16 (by simpa using h0),
                  s17 := fun h0 => φ.s17 (by simpa using h0),
                  s18 := fun h0 => φ.s18 (by simpa using h0),
                  s19 := fun h0 => φ.s19 (by simpa using h0),
                  s20 := fun h0 => φ.s20 (by simpa using h0),
                  s21 := fun h0 => φ.s21 (by simpa using h0),
                  s22 := fun h0 => φ.s22 (by simpa using h0) }, rfl⟩
              refine hG ?_
              clear hK φ hG
              revert hk
              go_simp
              first | done | exact fun h => h
            case q1 =>
              rintro L vs w' K ⟨u14, u15, u16, u17, u18, u19, u20, u21, u22, u23, u24, u25, u26, u27, u28, u29, u30, u31, u32, u33, u34, u35, u36, wz, rfl, φ, rfl⟩ hL hpre hcl hK G hG
              simp [Region.binds, closedFrom] at hpre hcl
              have e0 := φ.s0 (by simp [hpre])
              subst e0
              refine step_callg hG wz (by rfl) 20 #[.tmp 14] #[30] rfl #[.agg #[.int .i64 x.when_, .int .i64 x.which]] (by simp [Act.eval, Act.puts, Act.put]) (enters_of Try.func20 (by kernel_rfl) rfl) (cM wz) ?_
              rintro e w9 ⟨rfl, hb9⟩
              refine ⟨_, rfl, ?_⟩
              have hk := hK [(.agg #[.int .i64 x.when_, .int .i64 x.which]), (.bool true), u16, u17, u18, u19, u20, u21, u22, u23, u24, u25, u26, u27, u28, u29, u30, u31, u32, u33, u34, u35, u36] w9 ⟨_, _, _, _, _, _, _, _, _, _, _, _, _, _, _, _, _, _, _, _, _, _, _, w9, rfl,
                { b := φ.b.trans (hb9.mono φ.b.size),
                  s0 := fun h0 => φ.s0 (by simpa using h0),
                  s1 := fun _ => rfl,
                  s2 := fun h0 => φ.s2 (by simpa using h0),
                  s3 := fun h0 => φ.s3 (by simpa using h0),
                  s4 := fun h0 => φ.s4 (by simpa using h0),
                  s5 := fun h0 => φ.s5 (by simpa using h0),
                  s6 := fun h0 => φ.s6 (by simpa using h0),
                  s7 := fun h0 => φ.s7 (by simpa using h0),
                  s8 := fun h0 => φ.s8 (by simpa using h0),
                  s9 := fun h0 => φ.s9 (by simpa using h0),
                  s10 := fun h0 => φ.s10 (by simpa using h0),
                  s11 := fun h0 => φ.s11 (by simpa using h0),
                  s12 := fun h0 => φ.s12 (by simpa using h0),
                  s13 := fun h0 => φ.s13 (by simpa using h0),
                  s14 := fun h0 => φ.s14 (by simpa using h0),
                  s15 := fun h0 => φ.s15 (by simpa using h0),
                  s16 := fun h0 => φ.s16 (by simpa using h0),
                  s17 := fun h0 => φ.s17 (by simpa using h0),
                  s18 := fun h0 => φ.s18 (by simpa using h0),
                  s19 := fun h0 => φ.s19 (by simpa using h0),
                  s20 := fun h0 => φ.s20 (by simpa using h0),
                  s21 := fun h0 => φ.s21 (by simpa using h0),
                  s22 := fun h0 => φ.s22 (by simpa using h0) }, rfl⟩
              clear hK φ hG
              revert hk
              go_simp
              first | done | exact fun h => h
            case q2 =>
              rintro L vs w' K ⟨u14, u15, u16, u17, u18, u19, u20, u21, u22, u23, u24, u25, u26, u27, u28, u29, u30, u31, u32, u33, u34, u35, u36, wz, rfl, φ, rfl⟩ hL hpre hcl hK G hG
              simp [Region.binds, closedFrom] at hpre hcl
              have e1 := φ.s1 (by simp [hpre])
              subst e1
              have hk := hK [u14, (.bool true), (.bool false), u17, u18, u19, u20, u21, u22, u23, u24, u25, u26, u27, u28, u29, u30, u31, u32, u33, u34, u35, u36] wz ⟨_, _, _, _, _, _, _, _, _, _, _, _, _, _, _, _, _, _, _, _, _, _, _, wz, rfl,
                { b := φ.b,
                  s0 := fun h0 => φ.s0 (by simpa using h0),
                  s1 := fun h0 => φ.s1 (by simpa using h0),
                  s2 := fun _ => rfl,
                  s3 := fun h0 => φ.s3 (by simpa using h0),
                  s4 := fun h0 => φ.s4 (by simpa using h0),
                  s5 := fun h0 => φ.s5 (by simpa using h0),
                  s6 := fun h0 => φ.s6 (by simpa using h0),
                  s7 := fun h0 => φ.s7 (by simpa using h0),
                  s8 := fun h0 => φ.s8 (by simpa using h0),
                  s9 := fun h0 => φ.s9 (by simpa using h0),
                  s10 := fun h0 => φ.s10 (by simpa using h0),
                  s11 := fun h0 => φ.s11 (by simpa using h0),
                  s12 := fun h0 => φ.s12 (by simpa using h0),
                  s13 := fun h0 => φ.s13 (by simpa using h0),
                  s14 := fun h0 => φ.s14 (by simpa using h0),
                  s15 := fun h0 => φ.s15 (by simpa using h0),
                  s16 := fun h0 => φ.s16 (by simpa using h0),
                  s17 := fun h0 => φ.s17 (by simpa using h0),
                  s18 := fun h0 => φ.s18 (by simpa using h0),
                  s19 := fun h0 => φ.s19 (by simpa using h0),
                  s20 := fun h0 => φ.s20 (by simpa using h0),
                  s21 := fun h0 => φ.s21 (by simpa using h0),
                  s22 := fun h0 => φ.s22 (by simpa using h0) }, rfl⟩
              refine hG ?_
              clear hK φ hG
              revert hk
              go_simp
              first | done | exact fun h => h
            case q3 =>
              rintro L vs w' K ⟨u14, u15, u16, u17, u18, u19, u20, u21, u22, u23, u24, u25, u26, u27, u28, u29, u30, u31, u32, u33, u34, u35, u36, wz, rfl, φ, rfl⟩ hL hpre hcl hK G hG
              simp [Region.binds, closedFrom] at hpre hcl
              have e2 := φ.s2 (by simp [hpre])
              subst e2
              have hk := hK [u14, u15, (.bool false), (.bool false), u18, u19, u20, u21, u22, u23, u24, u25, u26, u27, u28, u29, u30, u31, u32, u33, u34, u35, u36] wz ⟨_, _, _, _, _, _, _, _, _, _, _, _, _, _, _, _, _, _, _, _, _, _, _, wz, rfl,
                { b := φ.b,
                  s0 := fun h0 => φ.s0 (by simpa using h0),
                  s1 := fun h0 => φ.s1 (by simpa using h0),
                  s2 := fun h0 => φ.s2 (by simpa using h0),
                  s3 := fun _ => rfl,
                  s4 := fun h0 => φ.s4 (by simpa using h0),
                  s5 := fun h0 => φ.s5 (by simpa using h0),
                  s6 := fun h0 => φ.s6 (by simpa using h0),
                  s7 := fun h0 => φ.s7 (by simpa using h0),
                  s8 := fun h0 => φ.s8 (by simpa using h0),
                  s9 := fun h0 => φ.s9 (by simpa using h0),
                  s10 := fun h0 => φ.s10 (by simpa using h0),
                  s11 := fun h0 => φ.s11 (by simpa using h0),
                  s12 := fun h0 => φ.s12 (by simpa using h0),
                  s13 := fun h0 => φ.s13 (by simpa using h0),
                  s14 := fun h0 => φ.s14 (by simpa using h0),
                  s15 := fun h0 => φ.s15 (by simpa using h0),
                  s16 := fun h0 => φ.s16 (by simpa using h0),
                  s17 := fun h0 => φ.s17 (by simpa using h0),
                  s18 := fun h0 => φ.s18 (by simpa using h0),
                  s19 := fun h0 => φ.s19 (by simpa using h0),
                  s20 := fun h0 => φ.s20 (by simpa using h0),
                  s21 := fun h0 => φ.s21 (by simpa using h0),
                  s22 := fun h0 => φ.s22 (by simpa using h0) }, rfl⟩
              refine hG ?_
              clear hK φ hG
              revert hk
              go_simp
              first | done | exact fun h => h
            case q4 =>
              rintro L vs w' K ⟨u14, u15, u16, u17, u18, u19, u20, u21, u22, u23, u24, u25, u26, u27, u28, u29, u30, u31, u32, u33, u34, u35, u36, wz, rfl, φ, rfl⟩ hL hpre hcl hK G hG
              simp [Region.binds, closedFrom] at hpre hcl
              have e3 := φ.s3 (by simp [hpre])
              subst e3
              have hk := hK [u14, u15, u16, (.bool false), (.map (some w.heap.size)), u19, u20, u21, u22, u23, u24, u25, u26, u27, u28, u29, u30, u31, u32, u33, u34, u35, u36] wz ⟨_, _, _, _, _, _, _, _, _, _, _, _, _, _, _, _, _, _, _, _, _, _, _, wz, rfl,
                { b := φ.b,
                  s0 := fun h0 => φ.s0 (by simpa using h0),
                  s1 := fun h0 => φ.s1 (by simpa using h0),
                  s2 := fun h0 => φ.s2 (by simpa using h0),
                  s3 := fun h0 => φ.s3 (by simpa using h0),
                  s4 := fun _ => rfl,
                  s5 := fun h0 => φ.s5 (by simpa using h0),
                  s6 := fun h0 => φ.s6 (by simpa using h0),
                  s7 := fun h0 => φ.s7 (by simpa using h0),
                  s8 := fun h0 => φ.s8 (by simpa using h0),
                  s9 := fun h0 => φ.s9 (by simpa using h0),
                  s10 := fun h0 => φ.s10 (by simpa using h0),
                  s11 := fun h0 => φ.s11 (by simpa using h0),
                  s12 := fun h0 => φ.s12 (by simpa using h0),
                  s13 := fun h0 => φ.s13 (by simpa using h0),
                  s14 := fun h0 => φ.s14 (by simpa using h0),
                  s15 := fun h0 => φ.s15 (by simpa using h0),
                  s16 := fun h0 => φ.s16 (by simpa using h0),
                  s17 := fun h0 => φ.s17 (by simpa using h0),
                  s18 := fun h0 => φ.s18 (by simpa using h0),
                  s19 := fun h0 => φ.s19 (by simpa using h0),
                  s20 := fun h0 => φ.s20 (by simpa using h0),
                  s21 := fun h0 => φ.s21 (by simpa using h0),
                  s22 := fun h0 => φ.s22 (by simpa using h0) }, rfl⟩
              refine hG ?_
              clear hK φ hG
              revert hk
              simp only [yielded, Region.wanted]
              go_simp
              first | done | exact fun h => h
            case q5 =>
              rintro L vs w' K ⟨u14, u15, u16, u17, u18, u19, u20, u21, u22, u23, u24, u25, u26, u27, u28, u29, u30, u31, u32, u33, u34, u35, u36, wz, rfl, φ, rfl⟩ hL hpre hcl hK G hG
              simp [Region.binds, closedFrom] at hpre hcl
              have e3 := φ.s3 (by simp [hpre])
              subst e3
              have hk := hK [u14, u15, u16, (.bool false), u18, (.pointer (some ⟨X5, 1, none⟩)), u20, u21, u22, u23, u24, u25, u26, u27, u28, u29, u30, u31, u32, u33, u34, u35, u36] wz ⟨_, _, _, _, _, _, _, _, _, _, _, _, _, _, _, _, _, _, _, _, _, _, _, wz, rfl,
                { b := φ.b,
                  s0 := fun h0 => φ.s0 (by simpa using h0),
                  s1 := fun h0 => φ.s1 (by simpa using h0),
                  s2 := fun h0 => φ.s2 (by simpa using h0),
                  s3 := fun h0 => φ.s3 (by simpa using h0),
                  s4 := fun h0 => φ.s4 (by simpa using h0),
                  s5 := fun _ => rfl,
                  s6 := fun h0 => φ.s6 (by simpa using h0),
                  s7 := fun h0 => φ.s7 (by simpa using h0),
                  s8 := fun h0 => φ.s8 (by simpa using h0),
                  s9 := fun h0 => φ.s9 (by simpa using h0),
                  s10 := fun h0 => φ.s10 (by simpa using h0),
                  s11 := fun h0 => φ.s11 (by simpa using h0),
                  s12 := fun h0 => φ.s12 (by simpa using h0),
                  s13 := fun h0 => φ.s13 (by simpa using h0),
                  s14 := fun h0 => φ.s14 (by simpa using h0),
                  s15 := fun h0 => φ.s15 (by simpa using h0),
                  s16 := fun h0 => φ.s16 (by simpa using h0),
                  s17 := fun h0 => φ.s17 (by simpa using h0),
                  s18 := fun h0 => φ.s18 (by simpa using h0),
                  s19 := fun h0 => φ.s19 (by simpa using h0),
                  s20 := fun h0 => φ.s20 (by simpa using h0),
                  s21 := fun h0 => φ.s21 (by simpa using h0),
                  s22 := fun h0 => φ.s22 (by simpa using h0) }, rfl⟩
              refine hG ?_
              clear hK φ hG
              revert hk
              simp only [yielded, Region.wanted]
              go_simp
              first | done | exact fun h => h
            case q6 =>
              rintro L vs w' K ⟨u14, u15, u16, u17, u18, u19, u20, u21, u22, u23, u24, u25, u26, u27, u28, u29, u30, u31, u32, u33, u34, u35, u36, wz, rfl, φ, rfl⟩ hL hpre hcl hK G hG
              simp [Region.binds, closedFrom] at hpre hcl
              have e3 := φ.s3 (by simp [hpre])
              subst e3
              have e5 := φ.s5 (by simp [hpre])
              subst e5
              have ce0 := (φ.b.cell (p := ⟨X5, 1, none⟩) lt5).trans x1
              have hk := hK [u14, u15, u16, (.bool false), u18, (.pointer (some ⟨X5, 1, none⟩)), (.int .i64 x.which), u21, u22, u23, u24, u25, u26, u27, u28, u29, u30, u31, u32, u33, u34, u35, u36] wz ⟨_, _, _, _, _, _, _, _, _, _, _, _, _, _, _, _, _, _, _, _, _, _, _, wz, rfl,
                { b := φ.b,
                  s0 := fun h0 => φ.s0 (by simpa using h0),
                  s1 := fun h0 => φ.s1 (by simpa using h0),
                  s2 := fun h0 => φ.s2 (by simpa using h0),
                  s3 := fun h0 => φ.s3 (by simpa using h0),
                  s4 := fun h0 => φ.s4 (by simpa using h0),
                  s5 := fun h0 => φ.s5 (by simpa using h0),
                  s6 := fun _ => rfl,
                  s7 := fun h0 => φ.s7 (by simpa using h0),
                  s8 := fun h0 => φ.s8 (by simpa using h0),
                  s9 := fun h0 => φ.s9 (by simpa using h0),
                  s10 := fun h0 => φ.s10 (by simpa using h0),
                  s11 := fun h0 => φ.s11 (by simpa using h0),
                  s12 := fun h0 => φ.s12 (by simpa using h0),
                  s13 := fun h0 => φ.s13 (by simpa using h0),
                  s14 := fun h0 => φ.s14 (by simpa using h0),
                  s15 := fun h0 => φ.s15 (by simpa using h0),
                  s16 := fun h0 => φ.s16 (by simpa using h0),
                  s17 := fun h0 => φ.s17 (by simpa using h0),
                  s18 := fun h0 => φ.s18 (by simpa using h0),
                  s19 := fun h0 => φ.s19 (by simpa using h0),
                  s20 := fun h0 => φ.s20 (by simpa using h0),
                  s21 := fun h0 => φ.s21 (by simpa using h0),
                  s22 := fun h0 => φ.s22 (by simpa using h0) }, rfl⟩
              refine hG ?_
              clear hK φ hG
              revert hk
              simp only [yielded, Region.wanted]
              go_simp
              first | done | exact fun h => h
            case q7 =>
              rintro L vs w' K ⟨u14, u15, u16, u17, u18, u19, u20, u21, u22, u23, u24, u25, u26, u27, u28, u29, u30, u31, u32, u33, u34, u35, u36, wz, rfl, φ, rfl⟩ hL hpre hcl hK G hG
              simp [Region.binds, closedFrom] at hpre hcl
              have e3 := φ.s3 (by simp [hpre])
              subst e3
              have e4 := φ.s4 (by simp [hpre])
              subst e4
              have e6 := φ.s6 (by simp [hpre])
              subst e6
              have hf := look wz φ.b
              have hk := hK [u14, u15, u16, (.bool false), (.map (some w.heap.size)), u19, (.int .i64 x.which), (.bool false), u22, u23, u24, u25, u26, u27, u28, u29, u30, u31, u32, u33, u34, u35, u36] wz ⟨_, _, _, _, _, _, _, _, _, _, _, _, _, _, _, _, _, _, _, _, _, _, _, wz, rfl,
                { b := φ.b,
                  s0 := fun h0 => φ.s0 (by simpa using h0),
                  s1 := fun h0 => φ.s1 (by simpa using h0),
                  s2 := fun h0 => φ.s2 (by simpa using h0),
                  s3 := fun h0 => φ.s3 (by simpa using h0),
                  s4 := fun h0 => φ.s4 (by simpa using h0),
                  s5 := fun h0 => φ.s5 (by simpa using h0),
                  s6 := fun h0 => φ.s6 (by simpa using h0),
                  s7 := fun _ => rfl,
                  s8 := fun h0 => φ.s8 (by simpa using h0),
                  s9 := fun h0 => φ.s9 (by simpa using h0),
                  s10 := fun h0 => φ.s10 (by simpa using h0),
                  s11 := fun h0 => φ.s11 (by simpa using h0),
                  s12 := fun h0 => φ.s12 (by simpa using h0),
                  s13 := fun h0 => φ.s13 (by simpa using h0),
                  s14 := fun h0 => φ.s14 (by simpa using h0),
                  s15 := fun h0 => φ.s15 (by simpa using h0),
                  s16 := fun h0 => φ.s16 (by simpa using h0),
                  s17 := fun h0 => φ.s17 (by simpa using h0),
                  s18 := fun h0 => φ.s18 (by simpa using h0),
                  s19 := fun h0 => φ.s19 (by simpa using h0),
                  s20 := fun h0 => φ.s20 (by simpa using h0),
                  s21 := fun h0 => φ.s21 (by simpa using h0),
                  s22 := fun h0 => φ.s22 (by simpa using h0) }, rfl⟩
              refine hG ?_
              clear hK φ hG
              revert hk
              simp only [yielded, Region.wanted]
              go_simp
              first | done | exact fun h => h
            case q8 =>
              rintro L vs w' K ⟨u14, u15, u16, u17, u18, u19, u20, u21, u22, u23, u24, u25, u26, u27, u28, u29, u30, u31, u32, u33, u34, u35, u36, wz, rfl, φ, rfl⟩ hL hpre hcl hK G hG
              simp [Region.binds, closedFrom] at hpre hcl
              have e3 := φ.s3 (by simp [hpre])
              subst e3
              have e7 := φ.s7 (by simp [hpre])
              subst e7
              have hk := hK [u14, u15, u16, (.bool false), u18, u19, u20, (.bool false), (.bool false), u23, u24, u25, u26, u27, u28, u29, u30, u31, u32, u33, u34, u35, u36] wz ⟨_, _, _, _, _, _, _, _, _, _, _, _, _, _, _, _, _, _, _, _, _, _, _, wz, rfl,
                { b := φ.b,
                  s0 := fun h0 => φ.s0 (by simpa using h0),
                  s1 := fun h0 => φ.s1 (by simpa using h0),
                  s2 := fun h0 => φ.s2 (by simpa using h0),
                  s3 := fun h0 => φ.s3 (by simpa using h0),
                  s4 := fun h0 => φ.s4 (by simpa using h0),
                  s5 := fun h0 => φ.s5 (by simpa using h0),
                  s6 := fun h0 => φ.s6 (by simpa using h0),
                  s7 := fun h0 => φ.s7 (by simpa using h0),
                  s8 := fun _ => rfl,
                  s9 := fun h0 => φ.s9 (by simpa using h0),
                  s10 := fun h0 => φ.s10 (by simpa using h0),
                  s11 := fun h0 => φ.s11 (by simpa using h0),
                  s12 := fun h0 => φ.s12 (by simpa using h0),
                  s13 := fun h0 => φ.s13 (by simpa using h0),
                  s14 := fun h0 => φ.s14 (by simpa using h0),
                  s15 := fun h0 => φ.s15 (by simpa using h0),
                  s16 := fun h0 => φ.s16 (by simpa using h0),
                  s17 := fun h0 => φ.s17 (by simpa using h0),
                  s18 := fun h0 => φ.s18 (by simpa using h0),
                  s19 := fun h0 => φ.s19 (by simpa using h0),
                  s20 := fun h0 => φ.s20 (by simpa using h0),
                  s21 := fun h0 => φ.s21 (by simpa using h0),
                  s22 := fun h0 => φ.s22 (by simpa using h0) }, rfl⟩
              refine hG ?_
              clear hK φ hG
              revert hk
              go_simp
              first | done | exact fun h => h
            case q9 =>
              rintro L vs w' K ⟨u14, u15, u16, u17, u18, u19, u20, u21, u22, u23, u24, u25, u26, u27, u28, u29, u30, u31, u32, u33, u34, u35, u36, wz, rfl, φ, rfl⟩ hL hpre hcl hK G hG
              simp [Region.binds, closedFrom] at hpre hcl
              have e8 := φ.s8 (by simp [hpre])
              subst e8
              have hk := hK [u14, u15, u16, u17, u18, u19, u20, u21, (.bool false), (.bool false), u24, u25, u26, u27, u28, u29, u30, u31, u32, u33, u34, u35, u36] wz ⟨_, _, _, _, _, _, _, _, _, _, _, _, _, _, _, _, _, _, _, _, _, _, _, wz, rfl,
                { b := φ.b,
                  s0 := fun h0 => φ.s0 (by simpa using h0),
                  s1 := fun h0 => φ.s1 (by simpa using h0),
                  s2 := fun h0 => φ.s2 (by simpa using h0),
                  s3 := fun h0 => φ.s3 (by simpa using h0),
                  s4 := fun h0 => φ.s4 (by simpa using h0),
                  s5 := fun h0 => φ.s5 (by simpa using h0),
                  s6 := fun h0 => φ.s6 (by simpa using h0),
                  s7 := fun h0 => φ.s7 (by simpa using h0),
                  s8 := fun h0 => φ.s8 (by simpa using h0),
                  s9 := fun _ => rfl,
                  s10 := fun h0 => φ.s10 (by simpa using h0),
                  s11 := fun h0 => φ.s11 (by simpa using h0),
                  s12 := fun h0 => φ.s12 (by simpa using h0),
                  s13 := fun h0 => φ.s13 (by simpa using h0),
                  s14 := fun h0 => φ.s14 (by simpa using h0),
                  s15 := fun h0 => φ.s15 (by simpa using h0),
                  s16 := fun h0 => φ.s16 (by simpa using h0),
                  s17 := fun h0 => φ.s17 (by simpa using h0),
                  s18 := fun h0 => φ.s18 (by simpa using h0),
                  s19 := fun h0 => φ.s19 (by simpa using h0),
                  s20 := fun h0 => φ.s20 (by simpa using h0),
                  s21 := fun h0 => φ.s21 (by simpa using h0),
                  s22 := fun h0 => φ.s22 (by simpa using h0) }, rfl⟩
              refine hG ?_
              clear hK φ hG
              revert hk
              go_simp
              first | done | exact fun h => h
            case q10 =>
              rintro L vs w' K ⟨u14, u15, u16, u17, u18, u19, u20, u21, u22, u23, u24, u25, u26, u27, u28, u29, u30, u31, u32, u33, u34, u35, u36, wz, rfl, φ, rfl⟩ hL hpre hcl hK G hG
              simp [Region.binds, closedFrom] at hpre hcl
              have e9 := φ.s9 (by simp [hpre])
              subst e9
              have hk := hK [u14, u15, u16, u17, u18, u19, u20, u21, u22, (.bool false), (.int .i64 (kk : Int)), u25, u26, u27, u28, u29, u30, u31, u32, u33, u34, u35, u36] wz ⟨_, _, _, _, _, _, _, _, _, _, _, _, _, _, _, _, _, _, _, _, _, _, _, wz, rfl,
                { b := φ.b,
                  s0 := fun h0 => φ.s0 (by simpa using h0),
                  s1 := fun h0 => φ.s1 (by simpa using h0),
                  s2 := fun h0 => φ.s2 (by simpa using h0),
                  s3 := fun h0 => φ.s3 (by simpa using h0),
                  s4 := fun h0 => φ.s4 (by simpa using h0),
                  s5 := fun h0 => φ.s5 (by simpa using h0),
                  s6 := fun h0 => φ.s6 (by simpa using h0),
                  s7 := fun h0 => φ.s7 (by simpa using h0),
                  s8 := fun h0 => φ.s8 (by simpa using h0),
                  s9 := fun h0 => φ.s9 (by simpa using h0),
                  s10 := fun _ => rfl,
                  s11 := fun h0 => φ.s11 (by simpa using h0),
                  s12 := fun h0 => φ.s12 (by simpa using h0),
                  s13 := fun h0 => φ.s13 (by simpa using h0),
                  s14 := fun h0 => φ.s14 (by simpa using h0),
                  s15 := fun h0 => φ.s15 (by simpa using h0),
                  s16 := fun h0 => φ.s16 (by simpa using h0),
                  s17 := fun h0 => φ.s17 (by simpa using h0),
                  s18 := fun h0 => φ.s18 (by simpa using h0),
                  s19 := fun h0 => φ.s19 (by simpa using h0),
                  s20 := fun h0 => φ.s20 (by simpa using h0),
                  s21 := fun h0 => φ.s21 (by simpa using h0),
                  s22 := fun h0 => φ.s22 (by simpa using h0) }, rfl⟩
              refine hG ?_
              clear hK φ hG
              revert hk
              simp only [yielded, Region.wanted]
              go_simp
              first | done | exact fun h => h
            case q11 =>
              rintro L vs w' K ⟨u14, u15, u16, u17, u18, u19, u20, u21, u22, u23, u24, u25, u26, u27, u28, u29, u30, u31, u32, u33, u34, u35, u36, wz, rfl, φ, rfl⟩ hL hpre hcl hK G hG
              simp [Region.binds, closedFrom] at hpre hcl
              have e9 := φ.s9 (by simp [hpre])
              subst e9
              have e10 := φ.s10 (by simp [hpre])
              subst e10
              have hk := hK [u14, u15, u16, u17, u18, u19, u20, u21, u22, (.bool false), (.int .i64 (kk : Int)), (.bool false), u26, u27, u28, u29, u30, u31, u32, u33, u34, u35, u36] wz ⟨_, _, _, _, _, _, _, _, _, _, _, _, _, _, _, _, _, _, _, _, _, _, _, wz, rfl,
                { b := φ.b,
                  s0 := fun h0 => φ.s0 (by simpa using h0),
                  s1 := fun h0 => φ.s1 (by simpa using h0),
                  s2 := fun h0 => φ.s2 (by simpa using h0),
                  s3 := fun h0 => φ.s3 (by simpa using h0),
                  s4 := fun h0 => φ.s4 (by simpa using h0),
                  s5 := fun h0 => φ.s5 (by simpa using h0),
                  s6 := fun h0 => φ.s6 (by simpa using h0),
                  s7 := fun h0 => φ.s7 (by simpa using h0),
                  s8 := fun h0 => φ.s8 (by simpa using h0),
                  s9 := fun h0 => φ.s9 (by simpa using h0),
                  s10 := fun h0 => φ.s10 (by simpa using h0),
                  s11 := fun _ => rfl,
                  s12 := fun h0 => φ.s12 (by simpa using h0),
                  s13 := fun h0 => φ.s13 (by simpa using h0),
                  s14 := fun h0 => φ.s14 (by simpa using h0),
                  s15 := fun h0 => φ.s15 (by simpa using h0),
                  s16 := fun h0 => φ.s16 (by simpa using h0),
                  s17 := fun h0 => φ.s17 (by simpa using h0),
                  s18 := fun h0 => φ.s18 (by simpa using h0),
                  s19 := fun h0 => φ.s19 (by simpa using h0),
                  s20 := fun h0 => φ.s20 (by simpa using h0),
                  s21 := fun h0 => φ.s21 (by simpa using h0),
                  s22 := fun h0 => φ.s22 (by simpa using h0) }, rfl⟩
              refine hG ?_
              clear hK φ hG
              revert hk
              simp only [yielded, Region.wanted]
              go_simp
              first | done | exact fun h => h
            case q12 =>
              rintro L vs w' K ⟨u14, u15, u16, u17, u18, u19, u20, u21, u22, u23, u24, u25, u26, u27, u28, u29, u30, u31, u32, u33, u34, u35, u36, wz, rfl, φ, rfl⟩ hL hpre hcl hK G hG
              simp [Region.binds, closedFrom] at hpre hcl
              have e9 := φ.s9 (by simp [hpre])
              subst e9
              have e11 := φ.s11 (by simp [hpre])
              subst e11
              have hk := hK [u14, u15, u16, u17, u18, u19, u20, u21, u22, (.bool false), u24, (.bool false), (.bool false), u27, u28, u29, u30, u31, u32, u33, u34, u35, u36] wz ⟨_, _, _, _, _, _, _, _, _, _, _, _, _, _, _, _, _, _, _, _, _, _, _, wz, rfl,
                { b := φ.b,
                  s0 := fun h0 => φ.s0 (by simpa using h0),
                  s1 := fun h0 => φ.s1 (by simpa using h0),
                  s2 := fun h0 => φ.s2 (by simpa using h0),
                  s3 := fun h0 => φ.s3 (by simpa using h0),
                  s4 := fun h0 => φ.s4 (by simpa using h0),
                  s5 := fun h0 => φ.s5 (by simpa using h0),
                  s6 := fun h0 => φ.s6 (by simpa using h0),
                  s7 := fun h0 => φ.s7 (by simpa using h0),
                  s8 := fun h0 => φ.s8 (by simpa using h0),
                  s9 := fun h0 => φ.s9 (by simpa using h0),
                  s10 := fun h0 => φ.s10 (by simpa using h0),
                  s11 := fun h0 => φ.s11 (by simpa using h0),
                  s12 := fun _ => rfl,
                  s13 := fun h0 => φ.s13 (by simpa using h0),
                  s14 := fun h0 => φ.s14 (by simpa using h0),
                  s15 := fun h0 => φ.s15 (by simpa using h0),
                  s16 := fun h0 => φ.s16 (by simpa using h0),
                  s17 := fun h0 => φ.s17 (by simpa using h0),
                  s18 := fun h0 => φ.s18 (by simpa using h0),
                  s19 := fun h0 => φ.s19 (by simpa using h0),
                  s20 := fun h0 => φ.s20 (by simpa using h0),
                  s21 := fun h0 => φ.s21 (by simpa using h0),
                  s22 := fun h0 => φ.s22 (by simpa using h0) }, rfl⟩
              refine hG ?_
              clear hK φ hG
              revert hk
              simp only [yielded, Region.wanted]
              go_simp
              first | done | exact fun h => h
            case q13 =>
              rintro L vs w' K ⟨u14, u15, u16, u17, u18, u19, u20, u21, u22, u23, u24, u25, u26, u27, u28, u29, u30, u31, u32, u33, u34, u35, u36, wz, rfl, φ, rfl⟩ hL hpre hcl hK G hG
              simp [Region.binds, closedFrom] at hpre hcl
              have e12 := φ.s12 (by simp [hpre])
              subst e12
              have hk := hK [u14, u15, u16, u17, u18, u19, u20, u21, u22, u23, u24, u25, (.bool false), (undef), u28, u29, u30, u31, u32, u33, u34, u35, u36] wz ⟨_, _, _, _, _, _, _, _, _, _, _, _, _, _, _, _, _, _, _, _, _, _, _, wz, rfl,
                { b := φ.b,
                  s0 := fun h0 => φ.s0 (by simpa using h0),
                  s1 := fun h0 => φ.s1 (by simpa using h0),
                  s2 := fun h0 => φ.s2 (by simpa using h0),
                  s3 := fun h0 => φ.s3 (by simpa using h0),
                  s4 := fun h0 => φ.s4 (by simpa using h0),
                  s5 := fun h0 => φ.s5 (by simpa using h0),
                  s6 := fun h0 => φ.s6 (by simpa using h0),
                  s7 := fun h0 => φ.s7 (by simpa using h0),
                  s8 := fun h0 => φ.s8 (by simpa using h0),
                  s9 := fun h0 => φ.s9 (by simpa using h0),
                  s10 := fun h0 => φ.s10 (by simpa using h0),
                  s11 := fun h0 => φ.s11 (by simpa using h0),
                  s12 := fun h0 => φ.s12 (by simpa using h0),
                  s13 := fun _ => rfl,
                  s14 := fun h0 => φ.s14 (by simpa using h0),
                  s15 := fun h0 => φ.s15 (by simpa using h0),
                  s16 := fun h0 => φ.s16 (by simpa using h0),
                  s17 := fun h0 => φ.s17 (by simpa using h0),
                  s18 := fun h0 => φ.s18 (by simpa using h0),
                  s19 := fun h0 => φ.s19 (by simpa using h0),
                  s20 := fun h0 => φ.s20 (by simpa using h0),
                  s21 := fun h0 => φ.s21 (by simpa using h0),
                  s22 := fun h0 => φ.s22 (by simpa using h0) }, rfl⟩
              refine hG ?_
              clear hK φ hG
              revert hk
              simp only [yielded, Region.wanted]
              go_simp
              first | done | exact fun h => h
            case q14 =>
              rintro L vs w' K ⟨u14, u15, u16, u17, u18, u19, u20, u21, u22, u23, u24, u25, u26, u27, u28, u29, u30, u31, u32, u33, u34, u35, u36, wz, rfl, φ, rfl⟩ hL hpre hcl hK G hG
              simp [Region.binds, closedFrom] at hpre hcl
              have e12 := φ.s12 (by simp [hpre])
              subst e12
              have hk := hK [u14, u15, u16, u17, u18, u19, u20, u21, u22, u23, u24, u25, (.bool false), u27, (undef), u29, u30, u31, u32, u33, u34, u35, u36] wz ⟨_, _, _, _, _, _, _, _, _, _, _, _, _, _, _, _, _, _, _, _, _, _, _, wz, rfl,
                { b := φ.b,
                  s0 := fun h0 => φ.s0 (by simpa using h0),
                  s1 := fun h0 => φ.s1 (by simpa using h0),
                  s2 := fun h0 => φ.s2 (by simpa using h0),
                  s3 := fun h0 => φ.s3 (by simpa using h0),
                  s4 := fun h0 => φ.s4 (by simpa using h0),
                  s5 := fun h0 => φ.s5 (by simpa using h0),
                  s6 := fun h0 => φ.s6 (by simpa using h0),
                  s7 := fun h0 => φ.s7 (by simpa using h0),
                  s8 := fun h0 => φ.s8 (by simpa using h0),
                  s9 := fun h0 => φ.s9 (by simpa using h0),
                  s10 := fun h0 => φ.s10 (by simpa using h0),
                  s11 := fun h0 => φ.s11 (by simpa using h0),
                  s12 := fun h0 => φ.s12 (by simpa using h0),
                  s13 := fun h0 => φ.s13 (by simpa using h0),
                  s14 := fun _ => rfl,
                  s15 := fun h0 => φ.s15 (by simpa using h0),
                  s16 := fun h0 => φ.s16 (by simpa using h0),
                  s17 := fun h0 => φ.s17 (by simpa using h0),
                  s18 := fun h0 => φ.s18 (by simpa using h0),
                  s19 := fun h0 => φ.s19 (by simpa using h0),
                  s20 := fun h0 => φ.s20 (by simpa using h0),
                  s21 := fun h0 => φ.s21 (by simpa using h0),
                  s22 := fun h0 => φ.s22 (by simpa using h0) }, rfl⟩
              refine hG ?_
              clear hK φ hG
              revert hk
              simp only [yielded, Region.wanted]
              go_simp
              first | done | exact fun h => h
            case q15 =>
              rintro L vs w' K ⟨u14, u15, u16, u17, u18, u19, u20, u21, u22, u23, u24, u25, u26, u27, u28, u29, u30, u31, u32, u33, u34, u35, u36, wz, rfl, φ, rfl⟩ hL hpre hcl hK G hG
              simp [Region.binds, closedFrom] at hpre hcl
              have e12 := φ.s12 (by simp [hpre])
              subst e12
              have hk := hK [u14, u15, u16, u17, u18, u19, u20, u21, u22, u23, u24, u25, (.bool false), u27, u28, (undef), u30, u31, u32, u33, u34, u35, u36] wz ⟨_, _, _, _, _, _, _, _, _, _, _, _, _, _, _, _, _, _, _, _, _, _, _, wz, rfl,
                { b := φ.b,
                  s0 := fun h0 => φ.s0 (by simpa using h0),
                  s1 := fun h0 => φ.s1 (by simpa using h0),
                  s2 := fun h0 => φ.s2 (by simpa using h0),
                  s3 := fun h0 => φ.s3 (by simpa using h0),
                  s4 := fun h0 => φ.s4 (by simpa using h0),
                  s5 := fun h0 => φ.s5 (by simpa using h0),
                  s6 := fun h0 => φ.s6 (by simpa using h0),
                  s7 := fun h0 => φ.s7 (by simpa using h0),
                  s8 := fun h0 => φ.s8 (by simpa using h0),
                  s9 := fun h0 => φ.s9 (by simpa using h0),
                  s10 := fun h0 => φ.s10 (by simpa using h0),
                  s11 := fun h0 => φ.s11 (by simpa using h0),
                  s12 := fun h0 => φ.s12 (by simpa using h0),
                  s13 := fun h0 => φ.s13 (by simpa using h0),
                  s14 := fun h0 => φ.s14 (by simpa using h0),
                  s15 := fun _ => rfl,
                  s16 := fun h0 => φ.s16 (by simpa using h0),
                  s17 := fun h0 => φ.s17 (by simpa using h0),
                  s18 := fun h0 => φ.s18 (by simpa using h0),
                  s19 := fun h0 => φ.s19 (by simpa using h0),
                  s20 := fun h0 => φ.s20 (by simpa using h0),
                  s21 := fun h0 => φ.s21 (by simpa using h0),
                  s22 := fun h0 => φ.s22 (by simpa using h0) }, rfl⟩
              refine hG ?_
              clear hK φ hG
              revert hk
              simp only [yielded, Region.wanted]
              go_simp
              first | done | exact fun h => h
            case q16 =>
              rintro L vs w' K ⟨u14, u15, u16, u17, u18, u19, u20, u21, u22, u23, u24, u25, u26, u27, u28, u29, u30, u31, u32, u33, u34, u35, u36, wz, rfl, φ, rfl⟩ hL hpre hcl hK G hG
              simp [Region.binds, closedFrom] at hpre hcl
              have e12 := φ.s12 (by simp [hpre])
              subst e12
              have hk := hK [u14, u15, u16, u17, u18, u19, u20, u21, u22, u23, u24, u25, (.bool false), u27, u28, u29, (undef), u31, u32, u33, u34, u35, u36] wz ⟨_, _, _, _, _, _, _, _, _, _, _, _, _, _, _, _, _, _, _, _, _, _, _, wz, rfl,
                { b := φ.b,
                  s0 := fun h0 => φ.s0 (by simpa using h0),
                  s1 := fun h0 => φ.s1 (by simpa using h0),
                  s2 := fun h0 => φ.s2 (by simpa using h0),
                  s3 := fun h0 => φ.s3 (by simpa using h0),
                  s4 := fun h0 => φ.s4 (by simpa using h0),
                  s5 := fun h0 => φ.s5 (by simpa using h0),
                  s6 := fun h0 => φ.s6 (by simpa using h0),
                  s7 := fun h0 => φ.s7 (by simpa using h0),
                  s8 := fun h0 => φ.s8 (by simpa using h0),
                  s9 := fun h0 => φ.s9 (by simpa using h0),
                  s10 := fun h0 => φ.s10 (by simpa using h0),
                  s11 := fun h0 => φ.s11 (by simpa using h0),
                  s12 := fun h0 => φ.s12 (by simpa using h0),
                  s13 := fun h0 => φ.s13 (by simpa using h0),
                  s14 := fun h0 => φ.s14 (by simpa using h0),
                  s15 := fun h0 => φ.s15 (by simpa using h0),
                  s16 := fun _ => rfl,
                  s17 := fun h0 => φ.s17 (by simpa using h0),
                  s18 := fun h0 => φ.s18 (by simpa using h0),
                  s19 := fun h0 => φ.s19 (by simpa using h0),
                  s20 := fun h0 => φ.s20 (by simpa using h0),
                  s21 := fun h0 => φ.s21 (by simpa using h0),
                  s22 := fun h0 => φ.s22 (by simpa using h0) }, rfl⟩
              refine hG ?_
              clear hK φ hG
              revert hk
              simp only [yielded, Region.wanted]
              go_simp
              first | done | exact fun h => h
            case q17 =>
              rintro L vs w' K ⟨u14, u15, u16, u17, u18, u19, u20, u21, u22, u23, u24, u25, u26, u27, u28, u29, u30, u31, u32, u33, u34, u35, u36, wz, rfl, φ, rfl⟩ hL hpre hcl hK G hG
              simp [Region.binds, closedFrom] at hpre hcl
              have e12 := φ.s12 (by simp [hpre])
              subst e12
              have hk := hK [u14, u15, u16, u17, u18, u19, u20, u21, u22, u23, u24, u25, (.bool false), u27, u28, u29, u30, (undef), u32, u33, u34, u35, u36] wz ⟨_, _, _, _, _, _, _, _, _, _, _, _, _, _, _, _, _, _, _, _, _, _, _, wz, rfl,
                { b := φ.b,
                  s0 := fun h0 => φ.s0 (by simpa using h0),
                  s1 := fun h0 => φ.s1 (by simpa using h0),
                  s2 := fun h0 => φ.s2 (by simpa using h0),
                  s3 := fun h0 => φ.s3 (by simpa using h0),
                  s4 := fun h0 => φ.s4 (by simpa using h0),
                  s5 := fun h0 => φ.s5 (by simpa using h0),
                  s6 := fun h0 => φ.s6 (by simpa using h0),
                  s7 := fun h0 => φ.s7 (by simpa using h0),
                  s8 := fun h0 => φ.s8 (by simpa using h0),
                  s9 := fun h0 => φ.s9 (by simpa using h0),
                  s10 := fun h0 => φ.s10 (by simpa using h0),
                  s11 := fun h0 => φ.s11 (by simpa using h0),
                  s12 := fun h0 => φ.s12 (by simpa using h0),
                  s13 := fun h0 => φ.s13 (by simpa using h0),
                  s14 := fun h0 => φ.s14 (by simpa using h0),
                  s15 := fun h0 => φ.s15 (by simpa using h0),
                  s16 := fun h0 => φ.s16 (by simpa using h0),
                  s17 := fun _ => rfl,
                  s18 := fun h0 => φ.s18 (by simpa using h0),
                  s19 := fun h0 => φ.s19 (by simpa using h0),
                  s20 := fun h0 => φ.s20 (by simpa using h0),
                  s21 := fun h0 => φ.s21 (by simpa using h0),
                  s22 := fun h0 => φ.s22 (by simpa using h0) }, rfl⟩
              refine hG ?_
              clear hK φ hG
              revert hk
              simp only [yielded, Region.wanted]
              go_simp
              first | done | exact fun h => h
            case q18 =>
              rintro L vs w' K ⟨u14, u15, u16, u17, u18, u19, u20, u21, u22, u23, u24, u25, u26, u27, u28, u29, u30, u31, u32, u33, u34, u35, u36, wz, rfl, φ, rfl⟩ hL hpre hcl hK G hG
              simp [Region.binds, closedFrom] at hpre hcl
              have e12 := φ.s12 (by simp [hpre])
              subst e12
              have hk := hK [u14, u15, u16, u17, u18, u19, u20, u21, u22, u23, u24, u25, (.bool false), u27, u28, u29, u30, u31, (undef), u33, u34, u35, u36] wz ⟨_, _, _, _, _, _, _, _, _, _, _, _, _, _, _, _, _, _, _, _, _, _, _, wz, rfl,
                { b := φ.b,
                  s0 := fun h0 => φ.s0 (by simpa using h0),
                  s1 := fun h0 => φ.s1 (by simpa using h0),
                  s2 := fun h0 => φ.s2 (by simpa using h0),
                  s3 := fun h0 => φ.s3 (by simpa using h0),
                  s4 := fun h0 => φ.s4 (by simpa using h0),
                  s5 := fun h0 => φ.s5 (by simpa using h0),
                  s6 := fun h0 => φ.s6 (by simpa using h0),
                  s7 := fun h0 => φ.s7 (by simpa using h0),
                  s8 := fun h0 => φ.s8 (by simpa using h0),
                  s9 := fun h0 => φ.s9 (by simpa using h0),
                  s10 := fun h0 => φ.s10 (by simpa using h0),
                  s11 := fun h0 => φ.s11 (by simpa using h0),
                  s12 := fun h0 => φ.s12 (by simpa using h0),
                  s13 := fun h0 => φ.s13 (by simpa using h0),
                  s14 := fun h0 => φ.s14 (by simpa using h0),
                  s15 := fun h0 => φ.s15 (by simpa using h0),
                  s16 := fun h0 => φ.s16 (by simpa using h0),
                  s17 := fun h0 => φ.s17 (by simpa using h0),
                  s18 := fun _ => rfl,
                  s19 := fun h0 => φ.s19 (by simpa using h0),
                  s20 := fun h0 => φ.s20 (by simpa using h0),
                  s21 := fun h0 => φ.s21 (by simpa using h0),
                  s22 := fun h0 => φ.s22 (by simpa using h0) }, rfl⟩
              refine hG ?_
              clear hK φ hG
              revert hk
              simp only [yielded, Region.wanted]
              go_simp
              first | done | exact fun h => h
            case q19 =>
              rintro L vs w' K ⟨u14, u15, u16, u17, u18, u19, u20, u21, u22, u23, u24, u25, u26, u27, u28, u29, u30, u31, u32, u33, u34, u35, u36, wz, rfl, φ, rfl⟩ hL hpre hcl hK G hG
              simp [Region.binds, closedFrom] at hpre hcl
              have e12 := φ.s12 (by simp [hpre])
              subst e12
              have hk := hK [u14, u15, u16, u17, u18, u19, u20, u21, u22, u23, u24, u25, (.bool false), u27, u28, u29, u30, u31, u32, (undef), u34, u35, u36] wz ⟨_, _, _, _, _, _, _, _, _, _, _, _, _, _, _, _, _, _, _, _, _, _, _, wz, rfl,
                { b := φ.b,
                  s0 := fun h0 => φ.s0 (by simpa using h0),
                  s1 := fun h0 => φ.s1 (by simpa using h0),
                  s2 := fun h0 => φ.s2 (by simpa using h0),
                  s3 := fun h0 => φ.s3 (by simpa using h0),
                  s4 := fun h0 => φ.s4 (by simpa using h0),
                  s5 := fun h0 => φ.s5 (by simpa using h0),
                  s6 := fun h0 => φ.s6 (by simpa using h0),
                  s7 := fun h0 => φ.s7 (by simpa using h0),
                  s8 := fun h0 => φ.s8 (by simpa using h0),
                  s9 := fun h0 => φ.s9 (by simpa using h0),
                  s10 := fun h0 => φ.s10 (by simpa using h0),
                  s11 := fun h0 => φ.s11 (by simpa using h0),
                  s12 := fun h0 => φ.s12 (by simpa using h0),
                  s13 := fun h0 => φ.s13 (by simpa using h0),
                  s14 := fun h0 => φ.s14 (by simpa using h0),
                  s15 := fun h0 => φ.s15 (by simpa using h0),
                  s16 := fun h0 => φ.s16 (by simpa using h0),
                  s17 := fun h0 => φ.s17 (by simpa using h0),
                  s18 := fun h0 => φ.s18 (by simpa using h0),
                  s19 := fun _ => rfl,
                  s20 := fun h0 => φ.s20 (by simpa using h0),
                  s21 := fun h0 => φ.s21 (by simpa using h0),
                  s22 := fun h0 => φ.s22 (by simpa using h0) }, rfl⟩
              refine hG ?_
              clear hK φ hG
              revert hk
              simp only [yielded, Region.wanted]
              go_simp
              first | done | exact fun h => h
            case q20 =>
              rintro L vs w' K ⟨u14, u15, u16, u17, u18, u19, u20, u21, u22, u23, u24, u25, u26, u27, u28, u29, u30, u31, u32, u33, u34, u35, u36, wz, rfl, φ, rfl⟩ hL hpre hcl hK G hG
              simp [Region.binds, closedFrom] at hpre hcl
              have e12 := φ.s12 (by simp [hpre])
              subst e12
              have hk := hK [u14, u15, u16, u17, u18, u19, u20, u21, u22, u23, u24, u25, (.bool false), u27, u28, u29, u30, u31, u32, u33, (undef), u35, u36] wz ⟨_, _, _, _, _, _, _, _, _, _, _, _, _, _, _, _, _, _, _, _, _, _, _, wz, rfl,
                { b := φ.b,
                  s0 := fun h0 => φ.s0 (by simpa using h0),
                  s1 := fun h0 => φ.s1 (by simpa using h0),
                  s2 := fun h0 => φ.s2 (by simpa using h0),
                  s3 := fun h0 => φ.s3 (by simpa using h0),
                  s4 := fun h0 => φ.s4 (by simpa using h0),
                  s5 := fun h0 => φ.s5 (by simpa using h0),
                  s6 := fun h0 => φ.s6 (by simpa using h0),
                  s7 := fun h0 => φ.s7 (by simpa using h0),
                  s8 := fun h0 => φ.s8 (by simpa using h0),
                  s9 := fun h0 => φ.s9 (by simpa using h0),
                  s10 := fun h0 => φ.s10 (by simpa using h0),
                  s11 := fun h0 => φ.s11 (by simpa using h0),
                  s12 := fun h0 => φ.s12 (by simpa using h0),
                  s13 := fun h0 => φ.s13 (by simpa using h0),
                  s14 := fun h0 => φ.s14 (by simpa using h0),
                  s15 := fun h0 => φ.s15 (by simpa using h0),
                  s16 := fun h0 => φ.s16 (by simpa using h0),
                  s17 := fun h0 => φ.s17 (by simpa using h0),
                  s18 := fun h0 => φ.s18 (by simpa using h0),
                  s19 := fun h0 => φ.s19 (by simpa using h0),
                  s20 := fun _ => rfl,
                  s21 := fun h0 => φ.s21 (by simpa using h0),
                  s22 := fun h0 => φ.s22 (by simpa using h0) }, rfl⟩
              refine hG ?_
              clear hK φ hG
              revert hk
              simp only [yielded, Region.wanted]
              go_simp
              first | done | exact fun h => h
            case q21 =>
              rintro L vs w' K ⟨u14, u15, u16, u17, u18, u19, u20, u21, u22, u23, u24, u25, u26, u27, u28, u29, u30, u31, u32, u33, u34, u35, u36, wz, rfl, φ, rfl⟩ hL hpre hcl hK G hG
              simp [Region.binds, closedFrom] at hpre hcl
              have e9 := φ.s9 (by simp [hpre])
              subst e9
              have e12 := φ.s12 (by simp [hpre])
              subst e12
              have e20 := φ.s20 (by simp [hpre])
              subst e20
              have hk := hK [u14, u15, u16, u17, u18, u19, u20, u21, u22, (.bool false), u24, u25, (.bool false), u27, u28, u29, u30, u31, u32, u33, (undef), (.bool false), u36] wz ⟨_, _, _, _, _, _, _, _, _, _, _, _, _, _, _, _, _, _, _, _, _, _, _, wz, rfl,
                { b := φ.b,
                  s0 := fun h0 => φ.s0 (by simpa using h0),
                  s1 := fun h0 => φ.s1 (by simpa using h0),
                  s2 := fun h0 => φ.s2 (by simpa using h0),
                  s3 := fun h0 => φ.s3 (by simpa using h0),
                  s4 := fun h0 => φ.s4 (by simpa using h0),
                  s5 := fun h0 => φ.s5 (by simpa using h0),
                  s6 := fun h0 => φ.s6 (by simpa using h0),
                  s7 := fun h0 => φ.s7 (by simpa using h0),
                  s8 := fun h0 => φ.s8 (by simpa using h0),
                  s9 := fun h0 => φ.s9 (by simpa using h0),
                  s10 := fun h0 => φ.s10 (by simpa using h0),
                  s11 := fun h0 => φ.s11 (by simpa using h0),
                  s12 := fun h0 => φ.s12 (by simpa using h0),
                  s13 := fun h0 => φ.s13 (by simpa using h0),
                  s14 := fun h0 => φ.s14 (by simpa using h0),
                  s15 := fun h0 => φ.s15 (by simpa using h0),
                  s16 := fun h0 => φ.s16 (by simpa using h0),
                  s17 := fun h0 => φ.s17 (by simpa using h0),
                  s18 := fun h0 => φ.s18 (by simpa using h0),
                  s19 := fun h0 => φ.s19 (by simpa using h0),
                  s20 := fun h0 => φ.s20 (by simpa using h0),
                  s21 := fun _ => rfl,
                  s22 := fun h0 => φ.s22 (by simpa using h0) }, rfl⟩
              refine hG ?_
              clear hK φ hG
              revert hk
              simp only [yielded, Region.wanted]
              go_simp
              first | done | exact fun h => h
            case q22 =>
              rintro L vs w' K ⟨u14, u15, u16, u17, u18, u19, u20, u21, u22, u23, u24, u25, u26, u27, u28, u29, u30, u31, u32, u33, u34, u35, u36, wz, rfl, φ, rfl⟩ hL hpre hcl hK G hG
              simp [Region.binds, closedFrom] at hpre hcl
              have e9 := φ.s9 (by simp [hpre])
              subst e9
              have e21 := φ.s21 (by simp [hpre])
              subst e21
              have hk := hK [u14, u15, u16, u17, u18, u19, u20, u21, u22, (.bool false), u24, u25, u26, u27, u28, u29, u30, u31, u32, u33, u34, (.bool false), (.bool false)] wz ⟨_, _, _, _, _, _, _, _, _, _, _, _, _, _, _, _, _, _, _, _, _, _, _, wz, rfl,
                { b := φ.b,
                  s0 := fun h0 => φ.s0 (by simpa using h0),
                  s1 := fun h0 => φ.s1 (by simpa using h0),
                  s2 := fun h0 => φ.s2 (by simpa using h0),
                  s3 := fun h0 => φ.s3 (by simpa using h0),
                  s4 := fun h0 => φ.s4 (by simpa using h0),
                  s5 := fun h0 => φ.s5 (by simpa using h0),
                  s6 := fun h0 => φ.s6 (by simpa using h0),
                  s7 := fun h0 => φ.s7 (by simpa using h0),
                  s8 := fun h0 => φ.s8 (by simpa using h0),
                  s9 := fun h0 => φ.s9 (by simpa using h0),
                  s10 := fun h0 => φ.s10 (by simpa using h0),
                  s11 := fun h0 => φ.s11 (by simpa using h0),
                  s12 := fun h0 => φ.s12 (by simpa using h0),
                  s13 := fun h0 => φ.s13 (by simpa using h0),
                  s14 := fun h0 => φ.s14 (by simpa using h0),
                  s15 := fun h0 => φ.s15 (by simpa using h0),
                  s16 := fun h0 => φ.s16 (by simpa using h0),
                  s17 := fun h0 => φ.s17 (by simpa using h0),
                  s18 := fun h0 => φ.s18 (by simpa using h0),
                  s19 := fun h0 => φ.s19 (by simpa using h0),
                  s20 := fun h0 => φ.s20 (by simpa using h0),
                  s21 := fun h0 => φ.s21 (by simpa using h0),
                  s22 := fun _ => rfl }, rfl⟩
              refine hG ?_
              clear hK φ hG
              revert hk
              go_simp
              first | done | exact fun h => h
            case hend =>
              rintro vs w' ⟨u14, u15, u16, u17, u18, u19, u20, u21, u22, u23, u24, u25, u26, u27, u28, u29, u30, u31, u32, u33, u34, u35, u36, wz, rfl, φ, rfl⟩ G hG
              obtain rfl := φ.s22 rfl
              have b9 := φ.b
              clear φ
              refine hG ?_
              clear hG
              have b2 := b.trans (b9.mono b.size)
              replace x0 := (b9.cell (p := ⟨X5, 0, none⟩) (World.block_lt_of_cell? _ _ x0)).trans x0
              replace x1 := (b9.cell (p := ⟨X5, 1, none⟩) (World.block_lt_of_cell? _ _ x1)).trans x1
              replace ltM := Nat.lt_of_lt_of_le ltM b9.size
              replace lt5 := Nat.lt_of_lt_of_le lt5 b9.size
              replace sm := sm.below b9
              obtain ⟨w8, hup, sm8, g8⟩ := sm.update hwf (show kk < maxLen from by unfold maxLen; omega)
              have b8 := b2.grown g8 b2.size (fun k hk => by injection hk with hk; omega)
              clear look sm g8 b2 b b9 cM x0 ltM
              go_simp
              go_wp2_with fail
              go_roundg (n - (kk + 1))
              case measure => omega
              case rel => exact ⟨kk + 1, x.which :: ks, by omega, by omega, by go_num, sm8, (show Aside _ from mem_next HK.out HX.out), (show Aside _ from b8), (show Aside _ from ok_next AA.out HNEW.out)⟩
      · have hm' : mayD x = false := by simpa using hm
        have cM := fun w1 => may_any x w1
        rw [hm'] at cM
        have HF := Lib.hid (HBAD.out (fun h => hm (HOK.out.1 h).1))
        clear hm hm'
        have smA := sm
        go_wp2_with fail
        replace sm := sm.below ((Below.refl _ _).alloc (Nat.le_refl _) (.cells #[.int .i64 x.when_, .int .i64 x.which] 30))
        clear smA q0 q1
        have neM : w.heap.size ≠ wr.heap.size := by omega
        have bMr := bM
        have x0 : (wr.alloc (.cells #[.int .i64 x.when_, .int .i64 x.which] 30)).cell? ⟨wr.heap.size, 0, none⟩ = some (.int .i64 x.when_) := World.cell?_alloc_new (w := wr) _ _ _
        have x1 : (wr.alloc (.cells #[.int .i64 x.when_, .int .i64 x.which] 30)).cell? ⟨wr.heap.size, 1, none⟩ = some (.int .i64 x.which) := World.cell?_alloc_new (w := wr) _ _ _
        replace ltM : _ < (wr.alloc (.cells #[.int .i64 x.when_, .int .i64 x.which] 30)).heap.size := Nat.lt_of_lt_of_le ltM (by simp)
        replace b := b.alloc b.size (.cells #[.int .i64 x.when_, .int .i64 x.which] 30)
        have lt5 : wr.heap.size < (wr.alloc (.cells #[.int .i64 x.when_, .int .i64 x.which] 30)).heap.size := by simp
        generalize hw_w1 : wr.alloc (.cells #[.int .i64 x.when_, .int .i64 x.which] 30) = w1 at *
        clear hw_w1
        generalize wr.heap.size = X5 at *
        replace sm := sm.below (Below.refl _ _).drew
        replace b := b.drew
        replace x0 : w1.drew.cell? ⟨X5, 0, none⟩ = some (.int .i64 x.when_) := x0
        replace x1 : w1.drew.cell? ⟨X5, 1, none⟩ = some (.int .i64 x.which) := x1
        replace ltM : _ < w1.drew.heap.size := ltM
        replace lt5 : _ < w1.drew.heap.size := lt5
        refine wp_region_rg (by kernel_rfl) (by kernel_rfl) [14, 15, 16, 17, 18, 19, 20, 21, 22, 23, 24, 25, 26, 27, 28, 29, 30, 31, 32, 33, 34, 35, 36] (RtBadPhi w1.drew w.heap.size X5 bb off n c kk kk x x) ?h0 ⟨?q0, ?q1, ?q2, ?q3, ?q4, ?q5, ?q6, ?q7, ?q8, ?q9, ?q10, ?q11, ?q12, ?q13, ?q14, ?q15, ?q16, ?q17, ?q18, ?q19, ?q20, ?q21, ?q22, trivial⟩ ?hend
        case h0 => exact ⟨_, _, _, _, _, _, _, _, _, _, _, _, _, _, _, _, _, _, _, _, _, _, _, _, rfl, ⟨Below.refl _ _, (fun h => by cases h), (fun h => by cases h), (fun h => by cases h), (fun h => by cases h), (fun h => by cases h), (fun h => by cases h), (fun h => by cases h), (fun h => by cases h), (fun h => by cases h), (fun h => by cases h), (fun h => by cases h), (fun h => by cases h), (fun h => by cases h), (fun h => by cases h), (fun h => by cases h), (fun h => by cases h), (fun h => by cases h), (fun h => by cases h), (fun h => by cases h), (fun h => by cases h), (fun h => by cases h), (fun h => by cases h), (fun h => by cases h)⟩, rfl⟩
        case q0 =>
          rintro L vs w' K ⟨u14, u15, u16, u17, u18, u19, u20, u21, u22, u23, u24, u25, u26, u27, u28, u29, u30, u31, u32, u33, u34, u35, u36, wz, rfl, φ, rfl⟩ hL hpre hcl hK G hG
          simp [Region.binds, closedFrom] at hpre hcl
          have ce0 := (φ.b.cell (p := ⟨X5, 0, none⟩) lt5).trans x0
          have ce1 := (φ.b.cell (p := ⟨X5, 1, none⟩) lt5).trans x1
          have hk := hK [(.agg #[.int .i64 x.when_, .int .i64 x.which]), u15, u16, u17, u18, u19, u20, u21, u22, u23, u24, u25, u26, u27, u28, u29, u30, u31, u32, u33, u34, u35, u36] wz ⟨_, _, _, _, _, _, _, _, _, _, _, _, _, _, _, _, _, _, _, _, _, _, _, wz, rfl,
            { b := φ.b,
              s0 := fun _ => rfl,
              s1 := fun h0 => φ.s1 (by simpa using h0),
              s2 := fun h0 => φ.s2 (by simpa using h0),
              s3 := fun h0 => φ.s3 (by simpa using h0),
              s4 := fun h0 => φ.s4 (by simpa using h0),
              s5 := fun h0 => φ.s5 (by simpa using h0),
              s6 := fun h0 => φ.s6 (by simpa using h0),
              s7 := fun h0 => φ.s7 (by simpa using h0),
              s8 := fun h0 => φ.s8 (by simpa using h0),
              s9 := fun h0 => φ.s9 (by simpa using h0),
              s10 := fun h0 => φ.s10 (by simpa using h0),
              s11 := fun h0 => φ.s11 (by simpa using h0),
              s12 := fun h0 => φ.s12 (by simpa using h0),
              s13 := fun h0 => φ.s13 (by simpa using h0),
              s14 := fun h0 => φ.s14 (by simpa using h0),
              s15 := fun h0 => φ.s15 (by simpa using h0),
              s16 := fun h0 => φ.s16 (by simpa using h0),
              s17 := fun h0 => φ.s17 (by simpa using h0),
              s18 := fun h0 => φ.s18 (by simpa using h0),
              s19 := fun h0 => φ.s19 (by simpa using h0),
              s20 := fun h0 => φ.s20 (by simpa using h0),
              s21 := fun h0 => φ.s21 (by simpa using h0),
              s22 := fun h0 => φ.s22 (by simpa using h0) }, rfl⟩
          refine hG ?_
          clear hK φ hG
          revert hk
          go_simp
          first | done | exact fun h => h
        case q1 =>
          rintro L vs w' K ⟨u14, u15, u16, u17, u18, u19, u20, u21, u22, u23, u24, u25, u26, u27, u28, u29, u30, u31, u32, u33, u34, u35, u36, wz, rfl, φ, rfl⟩ hL hpre hcl hK G hG
          simp [Region.binds, closedFrom] at hpre hcl
          have e0 := φ.s0 (by simp [hpre])
          subst e0
          refine step_callg hG wz (by rfl) 20 #[.tmp 14] #[30] rfl #[.agg #[.int .i64 x.when_, .int .i64 x.which]] (by simp [Act.eval, Act.puts, Act.put]) (enters_of Try.func20 (by kernel_rfl) rfl) (cM wz) ?_
          rintro e w9 ⟨rfl, hb9⟩
          refine ⟨_, rfl, ?_⟩
          have hk := hK [(.agg #[.int .i64 x.when_, .int .i64 x.which]), (.bool false), u16, u17, u18, u19, u20, u21, u22, u23, u24, u25, u26, u27, u28, u29, u30, u31, u32, u33, u34, u35, u36] w9 ⟨_, _, _, _, _, _, _, _, _, _, _, _, _, _, _, _, _, _, _, _, _, _, _, w9, rfl,
            { b := φ.b.trans (hb9.mono φ.b.size),
              s0 := fun h0 => φ.s0 (by simpa using h0),
              s1 := fun _ => rfl,
              s2 := fun h0 => φ.s2 (by simpa using h0),
              s3 := fun h0 => φ.s3 (by simpa using h0),
              s4 := fun h0 => φ.s4 (by simpa using h0),
              s5 := fun h0 => φ.s5 (by simpa using h0),
              s6 := fun h0 => φ.s6 (by simpa using h0),
              s7 := fun h0 => φ.s7 (by simpa using h0),
              s8 := fun h0 => φ.s8 (by simpa using h0),
              s9 := fun h0 => φ.s9 (by simpa using h0),
              s10 := fun h0 => φ.s10 (by simpa using h0),
              s11 := fun h0 => φ.s11 (by simpa using h0),
              s12 := fun h0 => φ.s12 (by simpa using h0),
              s13 := fun h0 => φ.s13 (by simpa using h0),
              s14 := fun h0 => φ.s14 (by simpa using h0),
              s15 := fun h0 => φ.s15 (by simpa using h0),
              s16 := fun h0 => φ.s16 (by simpa using h0),
              s17 := fun h0 => φ.s17 (by simpa using h0),
              s18 := fun h0 => φ.s18 (by simpa using h0),
              s19 := fun h0 => φ.s19 (by simpa using h0),
              s20 := fun h0 => φ.s20 (by simpa using h0),
              s21 := fun h0 => φ.s21 (by simpa using h0),
              s22 := fun h0 => φ.s22 (by simpa using h0) }, rfl⟩
          clear hK φ hG
          revert hk
          go_simp
          first | done | exact fun h => h
        case q2 =>
          rintro L vs w' K ⟨u14, u15, u16, u17, u18, u19, u20, u21, u22, u23, u24, u25, u26, u27, u28, u29, u30, u31, u32, u33, u34, u35, u36, wz, rfl, φ, rfl⟩ hL hpre hcl hK G hG
          simp [Region.binds, closedFrom] at hpre hcl
          have e1 := φ.s1 (by simp [hpre])
          subst e1
          have hk := hK [u14, (.bool false), (.bool true), u17, u18, u19, u20, u21, u22, u23, u24, u25, u26, u27, u28, u29, u30, u31, u32, u33, u34, u35, u36] wz ⟨_, _, _, _, _, _, _, _, _, _, _, _, _, _, _, _, _, _, _, _, _, _, _, wz, rfl,
            { b := φ.b,
              s0 := fun h0 => φ.s0 (by simpa using h0),
              s1 := fun h0 => φ.s1 (by simpa using h0),
              s2 := fun _ => rfl,
              s3 := fun h0 => φ.s3 (by simpa using h0),
              s4 := fun h0 => φ.s4 (by simpa using h0),
              s5 := fun h0 => φ.s5 (by simpa using h0),
              s6 := fun h0 => φ.s6 (by simpa using h0),
              s7 := fun h0 => φ.s7 (by simpa using h0),
              s8 := fun h0 => φ.s8 (by simpa using h0),
              s9 := fun h0 => φ.s9 (by simpa using h0),
              s10 := fun h0 => φ.s10 (by simpa using h0),
              s11 := fun h0 => φ.s11 (by simpa using h0),
              s12 := fun h0 => φ.s12 (by simpa using h0),
              s13 := fun h0 => φ.s13 (by simpa using h0),
              s14 := fun h0 => φ.s14 (by simpa using h0),
              s15 := fun h0 => φ.s15 (by simpa using h0),
              s16 := fun h0 => φ.s16 (by simpa using h0),
              s17 := fun h0 => φ.s17 (by simpa using h0),
              s18 := fun h0 => φ.s18 (by simpa using h0),
              s19 := fun h0 => φ.s19 (by simpa using h0),
              s20 := fun h0 => φ.s20 (by simpa using h0),
              s21 := fun h0 => φ.s21 (by simpa using h0),
              s22 := fun h0 => φ.s22 (by simpa using h0) }, rfl⟩
          refine hG ?_
          clear hK φ hG
          revert hk
          go_simp
          first | done | exact fun h => h
        case q3 =>
          rintro L vs w' K ⟨u14, u15, u16, u17, u18, u19, u20, u21, u22, u23, u24, u25, u26, u27, u28, u29, u30, u31, u32, u33, u34, u35, u36, wz, rfl, φ, rfl⟩ hL hpre hcl hK G hG
          simp [Region.binds, closedFrom] at hpre hcl
          have e2 := φ.s2 (by simp [hpre])
          subst e2
          have hk := hK [u14, u15, (.bool true), (.bool true), u18, u19, u20, u21, u22, u23, u24, u25, u26, u27, u28, u29, u30, u31, u32, u33, u34, u35, u36] wz ⟨_, _, _, _, _, _, _, _, _, _, _, _, _, _, _, _, _, _, _, _, _, _, _, wz, rfl,
            { b := φ.b,
              s0 := fun h0 => φ.s0 (by simpa using h0),
              s1 := fun h0 => φ.s1 (by simpa using h0),
              s2 := fun h0 => φ.s2 (by simpa using h0),
              s3 := fun _ => rfl,
              s4 := fun h0 => φ.s4 (by simpa using h0),
              s5 := fun h0 => φ.s5 (by simpa using h0),
              s6 := fun h0 => φ.s6 (by simpa using h0),
              s7 := fun h0 => φ.s7 (by simpa using h0),
              s8 := fun h0 => φ.s8 (by simpa using h0),
              s9 := fun h0 => φ.s9 (by simpa using h0),
              s10 := fun h0 => φ.s10 (by simpa using h0),
              s11 := fun h0 => φ.s11 (by simpa using h0),
              s12 := fun h0 => φ.s12 (by simpa using h0),
              s13 := fun h0 => φ.s13 (by simpa using h0),
              s14 := fun h0 => φ.s14 (by simpa using h0),
              s15 := fun h0 => φ.s15 (by simpa using h0),
              s16 := fun h0 => φ.s16 (by simpa using h0),
              s17 := fun h0 => φ.s17 (by simpa using h0),
              s18 := fun h0 => φ.s18 (by simpa using h0),
              s19 := fun h0 => φ.s19 (by simpa using h0),
              s20 := fun h0 => φ.s20 (by simpa using h0),
              s21 := fun h0 => φ.s21 (by simpa using h0),
              s22 := fun h0 => φ.s22 (by simpa using h0) }, rfl⟩
          refine hG ?_
          clear hK φ hG
          revert hk
          go_simp
          first | done | exact fun h => h
        case q4 =>
          rintro L vs w' K ⟨u14, u15, u16, u17, u18, u19, u20, u21, u22, u23, u24, u25, u26, u27, u28, u29, u30, u31, u32, u33, u34, u35, u36, wz, rfl, φ, rfl⟩ hL hpre hcl hK G hG
          simp [Region.binds, closedFrom] at hpre hcl
          have e3 := φ.s3 (by simp [hpre])
          subst e3
          have hk := hK [u14, u15, u16, (.bool true), (undef), u19, u20, u21, u22, u23, u24, u25, u26, u27, u28, u29, u30, u31, u32, u33, u34, u35, u36] wz ⟨_, _, _, _, _, _, _, _, _, _, _, _, _, _, _, _, _, _, _, _, _, _, _, wz, rfl,
            { b := φ.b,
              s0 := fun h0 => φ.s0 (by simpa using h0),
              s1 := fun h0 => φ.s1 (by simpa using h0),
              s2 := fun h0 => φ.s2 (by simpa using h0),
              s3 := fun h0 => φ.s3 (by simpa using h0),
              s4 := fun _ => rfl,
              s5 := fun h0 => φ.s5 (by simpa using h0),
              s6 := fun h0 => φ.s6 (by simpa using h0),
              s7 := fun h0 => φ.s7 (by simpa using h0),
              s8 := fun h0 => φ.s8 (by simpa using h0),
              s9 := fun h0 => φ.s9 (by simpa using h0),
              s10 := fun h0 => φ.s10 (by simpa using h0),
              s11 := fun h0 => φ.s11 (by simpa using h0),
              s12 := fun h0 => φ.s12 (by simpa using h0),
              s13 := fun h0 => φ.s13 (by simpa using h0),
              s14 := fun h0 => φ.s14 (by simpa using h0),
              s15 := fun h0 => φ.s15 (by simpa using h0),
              s16 := fun h0 => φ.s16 (by simpa using h0),
              s17 := fun h0 => φ.s17 (by simpa using h0),
              s18 := fun h0 => φ.s18 (by simpa using h0),
              s19 := fun h0 => φ.s19 (by simpa using h0),
              s20 := fun h0 => φ.s20 (by simpa using h0),
              s21 := fun h0 => φ.s21 (by simpa using h0),
              s22 := fun h0 => φ.s22 (by simpa using h0) }, rfl⟩
          refine hG ?_
          clear hK φ hG
          revert hk
          simp only [yielded, Region.wanted]
          go_simp
          first | done | exact fun h => h
        case q5 =>
          rintro L vs w' K ⟨u14, u15, u16, u17, u18, u19, u20, u21, u22, u23, u24, u25, u26, u27, u28, u29, u30, u31, u32, u33, u34, u35, u36, wz, rfl, φ, rfl⟩ hL hpre hcl hK G hG
          simp [Region.binds, closedFrom] at hpre hcl
          have e3 := φ.s3 (by simp [hpre])
          subst e3
          have hk := hK [u14, u15, u16, (.bool true), u18, (undef), u20, u21, u22, u23, u24, u25, u26, u27, u28, u29, u30, u31, u32, u33, u34, u35, u36] wz ⟨_, _, _, _, _, _, _, _, _, _, _, _, _, _, _, _, _, _, _, _, _, _, _, wz, rfl,
            { b := φ.b,
              s0 := fun h0 => φ.s0 (by simpa using h0),
              s1 := fun h0 => φ.s1 (by simpa using h0),
              s2 := fun h0 => φ.s2 (by simpa using h0),
              s3 := fun h0 => φ.s3 (by simpa using h0),
              s4 := fun h0 => φ.s4 (by simpa using h0),
              s5 := fun _ => rfl,
              s6 := fun h0 => φ.s6 (by simpa using h0),
              s7 := fun h0 => φ.s7 (by simpa using h0),
              s8 := fun h0 => φ.s8 (by simpa using h0),
              s9 := fun h0 => φ.s9 (by simpa using h0),
              s10 := fun h0 => φ.s10 (by simpa using h0),
              s11 := fun h0 => φ.s11 (by simpa using h0),
              s12 := fun h0 => φ.s12 (by simpa using h0),
              s13 := fun h0 => φ.s13 (by simpa using h0),
              s14 := fun h0 => φ.s14 (by simpa using h0),
              s15 := fun h0 => φ.s15 (by simpa using h0),
              s16 := fun h0 => φ.s16 (by simpa using h0),
              s17 := fun h0 => φ.s17 (by simpa using h0),
              s18 := fun h0 => φ.s18 (by simpa using h0),
              s19 := fun h0 => φ.s19 (by simpa using h0),
              s20 := fun h0 => φ.s20 (by simpa using h0),
              s21 := fun h0 => φ.s21 (by simpa using h0),
              s22 := fun h0 => φ.s22 (by simpa using h0) }, rfl⟩
          refine hG ?_
          clear hK φ hG
          revert hk
          simp only [yielded, Region.wanted]
          go_simp
          first | done | exact fun h => h
        case q6 =>
          rintro L vs w' K ⟨u14, u15, u16, u17, u18, u19, u20, u21, u22, u23, u24, u25, u26, u27, u28, u29, u30, u31, u32, u33, u34, u35, u36, wz, rfl, φ, rfl⟩ hL hpre hcl hK G hG
          simp [Region.binds, closedFrom] at hpre hcl
          have e3 := φ.s3 (by simp [hpre])
          subst e3
          have hk := hK [u14, u15, u16, (.bool true), u18, u19, (undef), u21, u22, u23, u24, u25, u26, u27, u28, u29, u30, u31, u32, u33, u34, u35, u36] wz ⟨_, _, _, _, _, _, _, _, _, _, _, _, _, _, _, _, _, _, _, _, _, _, _, wz, rfl,
            { b := φ.b,
              s0 := fun h0 => φ.s0 (by simpa using h0),
              s1 := fun h0 => φ.s1 (by simpa using h0),
              s2 := fun h0 => φ.s2 (by simpa using h0),
              s3 := fun h0 => φ.s3 (by simpa using h0),
              s4 := fun h0 => φ.s4 (by simpa using h0),
              s5 := fun h0 => φ.s5 (by simpa using h0),
              s6 := fun _ => rfl,
              s7 := fun h0 => φ.s7 (by simpa using h0),
              s8 := fun h0 => φ.s8 (by simpa using h0),
              s9 := fun h0 => φ.s9 (by simpa using h0),
              s10 := fun h0 => φ.s10 (by simpa using h0),
              s11 := fun h0 => φ.s11 (by simpa using h0),
              s12 := fun h0 => φ.s12 (by simpa using h0),
              s13 := fun h0 => φ.s13 (by simpa using h0),
              s14 := fun h0 => φ.s14 (by simpa using h0),
              s15 := fun h0 => φ.s15 (by simpa using h0),
              s16 := fun h0 => φ.s16 (by simpa using h0),
              s17 := fun h0 => φ.s17 (by simpa using h0),
              s18 := fun h0 => φ.s18 (by simpa using h0),
              s19 := fun h0 => φ.s19 (by simpa using h0),
              s20 := fun h0 => φ.s20 (by simpa using h0),
              s21 := fun h0 => φ.s21 (by simpa using h0),
              s22 := fun h0 => φ.s22 (by simpa using h0) }, rfl⟩
          refine hG ?_
          clear hK φ hG
          revert hk
          simp only [yielded, Region.wanted]
          go_simp
          first | done | exact fun h => h
        case q7 =>
          rintro L vs w' K ⟨u14, u15, u16, u17, u18, u19, u20, u21, u22, u23, u24, u25, u26, u27, u28, u29, u30, u31, u32, u33, u34, u35, u36, wz, rfl, φ, rfl⟩ hL hpre hcl hK G hG
          simp [Region.binds, closedFrom] at hpre hcl
          have e3 := φ.s3 (by simp [hpre])
          subst e3
          have hk := hK [u14, u15, u16, (.bool true), u18, u19, u20, (undef), u22, u23, u24, u25, u26, u27, u28, u29, u30, u31, u32, u33, u34, u35, u36] wz ⟨_, _, _, _, _, _, _, _, _, _, _, _, _, _, _, _, _, _, _, _, _, _, _, wz, rfl,
            { b := φ.b,
              s0 := fun h0 => φ.s0 (by simpa using h0),
              s1 := fun h0 => φ.s1 (by simpa using h0),
              s2 := fun h0 => φ.s2 (by simpa using h0),
              s3 := fun h0 => φ.s3 (by simpa using h0),
              s4 := fun h0 => φ.s4 (by simpa using h0),
              s5 := fun h0 => φ.s5 (by simpa using h0),
              s6 := fun h0 => φ.s6 (by simpa using h0),
              s7 := fun _ => rfl,
              s8 := fun h0 => φ.s8 (by simpa using h0),
              s9 := fun h0 => φ.s9 (by simpa using h0),
              s10 := fun h0 => φ.s10 (by simpa using h0),
              s11 := fun h0 => φ.s11 (by simpa using h0),
              s12 := fun h0 => φ.s12 (by simpa using h0),
              s13 := fun h0 => φ.s13 (by simpa using h0),
              s14 := fun h0 => φ.s14 (by simpa using h0),
              s15 := fun h0 => φ.s15 (by simpa using h0),
              s16 := fun h0 => φ.s16 (by simpa using h0),
              s17 := fun h0 => φ.s17 (by simpa using h0),
              s18 := fun h0 => φ.s18 (by simpa using h0),
              s19 := fun h0 => φ.s19 (by simpa using h0),
              s20 := fun h0 => φ.s20 (by simpa using h0),
              s21 := fun h0 => φ.s21 (by simpa using h0),
              s22 := fun h0 => φ.s22 (by simpa using h0) }, rfl⟩
          refine hG ?_
          clear hK φ hG
          revert hk
          simp only [yielded, Region.wanted]
          go_simp
          first | done | exact fun h => h
        case q8 =>
          rintro L vs w' K ⟨u14, u15, u16, u17, u18, u19, u20, u21, u22, u23, u24, u25, u26, u27, u28, u29, u30, u31, u32, u33, u34, u35, u36, wz, rfl, φ, rfl⟩ hL hpre hcl hK G hG
          simp [Region.binds, closedFrom] at hpre hcl
          have e3 := φ.s3 (by simp [hpre])
          subst e3
          have e7 := φ.s7 (by simp [hpre])
          subst e7
          have hk := hK [u14, u15, u16, (.bool true), u18, u19, u20, (undef), (.bool true), u23, u24, u25, u26, u27, u28, u29, u30, u31, u32, u33, u34, u35, u36] wz ⟨_, _, _, _, _, _, _, _, _, _, _, _, _, _, _, _, _, _, _, _, _, _, _, wz, rfl,
            { b := φ.b,
              s0 := fun h0 => φ.s0 (by simpa using h0),
              s1 := fun h0 => φ.s1 (by simpa using h0),
              s2 := fun h0 => φ.s2 (by simpa using h0),
              s3 := fun h0 => φ.s3 (by simpa using h0),
              s4 := fun h0 => φ.s4 (by simpa using h0),
              s5 := fun h0 => φ.s5 (by simpa using h0),
              s6 := fun h0 => φ.s6 (by simpa using h0),
              s7 := fun h0 => φ.s7 (by simpa using h0),
              s8 := fun _ => rfl,
              s9 := fun h0 => φ.s9 (by simpa using h0),
              s10 := fun h0 => φ.s10 (by simpa using h0),
              s11 := fun h0 => φ.s11 (by simpa using h0),
              s12 := fun h0 => φ.s12 (by simpa using h0),
              s13 := fun h0 => φ.s13 (by simpa using h0),
              s14 := fun h0 => φ.s14 (by simpa using h0),
              s15 := fun h0 => φ.s15 (by simpa using h0),
              s16 := fun h0 => φ.s16 (by simpa using h0),
              s17 := fun h0 => φ.s17 (by simpa using h0),
              s18 := fun h0 => φ.s18 (by simpa using h0),
              s19 := fun h0 => φ.s19 (by simpa using h0),
              s20 := fun h0 => φ.s20 (by simpa using h0),
              s21 := fun h0 => φ.s21 (by simpa using h0),
              s22 := fun h0 => φ.s22 (by simpa using h0) }, rfl⟩
          refine hG ?_
          clear hK φ hG
          revert hk
          go_simp
          first | done | exact fun h => h
        case q9 =>
          rintro L vs w' K ⟨u14, u15, u16, u17, u18, u19, u20, u21, u22, u23, u24, u25, u26, u27, u28, u29, u30, u31, u32, u33, u34, u35, u36, wz, rfl, φ, rfl⟩ hL hpre hcl hK G hG
          simp [Region.binds, closedFrom] at hpre hcl
          have e8 := φ.s8 (by simp [hpre])
          subst e8
          have hk := hK [u14, u15, u16, u17, u18, u19, u20, u21, (.bool true), (.bool true), u24, u25, u26, u27, u28, u29, u30, u31, u32, u33, u34, u35, u36] wz ⟨_, _, _, _, _, _, _, _, _, _, _, _, _, _, _, _, _, _, _, _, _, _, _, wz, rfl,
            { b := φ.b,
              s0 := fun h0 => φ.s0 (by simpa using h0),
              s1 := fun h0 => φ.s1 (by simpa using h0),
              s2 := fun h0 => φ.s2 (by simpa using h0),
              s3 := fun h0 => φ.s3 (by simpa using h0),
              s4 := fun h0 => φ.s4 (by simpa using h0),
              s5 := fun h0 => φ.s5 (by simpa using h0),
              s6 := fun h0 => φ.s6 (by simpa using h0),
              s7 := fun h0 => φ.s7 (by simpa using h0),
              s8 := fun h0 => φ.s8 (by simpa using h0),
              s9 := fun _ => rfl,
              s10 := fun h0 => φ.s10 (by simpa using h0),
              s11 := fun h0 => φ.s11 (by simpa using h0),
              s12 := fun h0 => φ.s12 (by simpa using h0),
              s13 := fun h0 => φ.s13 (by simpa using h0),
              s14 := fun h0 => φ.s14 (by simpa using h0),
              s15 := fun h0 => φ.s15 (by simpa using h0),
              s16 := fun h0 => φ.s16 (by simpa using h0),
              s17 := fun h0 => φ.s17 (by simpa using h0),
              s18 := fun h0 => φ.s18 (by simpa using h0),
              s19 := fun h0 => φ.s19 (by simpa using h0),
              s20 := fun h0 => φ.s20 (by simpa using h0),
              s21 := fun h0 => φ.s21 (by simpa using h0),
              s22 := fun h0 => φ.s22 (by simpa using h0) }, rfl⟩
          refine hG ?_
          clear hK φ hG
          revert hk
          go_simp
          first | done | exact fun h => h
        case q10 =>
          rintro L vs w' K ⟨u14, u15, u16, u17, u18, u19, u20, u21, u22, u23, u24, u25, u26, u27, u28, u29, u30, u31, u32, u33, u34, u35, u36, wz, rfl, φ, rfl⟩ hL hpre hcl hK G hG
          simp [Region.binds, closedFrom] at hpre hcl
          have e9 := φ.s9 (by simp [hpre])
          subst e9
          have hk := hK [u14, u15, u16, u17, u18, u19, u20, u21, u22, (.bool true), (undef), u25, u26, u27, u28, u29, u30, u31, u32, u33, u34, u35, u36] wz ⟨_, _, _, _, _, _, _, _, _, _, _, _, _, _, _, _, _, _, _, _, _, _, _, wz, rfl,
            { b := φ.b,
              s0 := fun h0 => φ.s0 (by simpa using h0),
              s1 := fun h0 => φ.s1 (by simpa using h0),
              s2 := fun h0 => φ.s2 (by simpa using h0),
              s3 := fun h0 => φ.s3 (by simpa using h0),
              s4 := fun h0 => φ.s4 (by simpa using h0),
              s5 := fun h0 => φ.s5 (by simpa using h0),
              s6 := fun h0 => φ.s6 (by simpa using h0),
              s7 := fun h0 => φ.s7 (by simpa using h0),
              s8 := fun h0 => φ.s8 (by simpa using h0),
              s9 := fun h0 => φ.s9 (by simpa using h0),
              s10 := fun _ => rfl,
              s11 := fun h0 => φ.s11 (by simpa using h0),
              s12 := fun h0 => φ.s12 (by simpa using h0),
              s13 := fun h0 => φ.s13 (by simpa using h0),
              s14 := fun h0 => φ.s14 (by simpa using h0),
              s15 := fun h0 => φ.s15 (by simpa using h0),
              s16 := fun h0 => φ.s16 (by simpa using h0),
              s17 := fun h0 => φ.s17 (by simpa using h0),
              s18 := fun h0 => φ.s18 (by simpa using h0),
              s19 := fun h0 => φ.s19 (by simpa using h0),
              s20 := fun h0 => φ.s20 (by simpa using h0),
              s21 := fun h0 => φ.s21 (by simpa using h0),
              s22 := fun h0 => φ.s22 (by simpa using h0) }, rfl⟩
          refine hG ?_
          clear hK φ hG
          revert hk
          simp only [yielded, Region.wanted]
          go_simp
          first | done | exact fun h => h
        case q11 =>
          rintro L vs w' K ⟨u14, u15, u16, u17, u18, u19, u20, u21, u22, u23, u24, u25, u26, u27, u28, u29, u30, u31, u32, u33, u34, u35, u36, wz, rfl, φ, rfl⟩ hL hpre hcl hK G hG
          simp [Region.binds, closedFrom] at hpre hcl
          have e9 := φ.s9 (by simp [hpre])
          subst e9
          have hk := hK [u14, u15, u16, u17, u18, u19, u20, u21, u22, (.bool true), u24, (undef), u26, u27, u28, u29, u30, u31, u32, u33, u34, u35, u36] wz ⟨_, _, _, _, _, _, _, _, _, _, _, _, _, _, _, _, _, _, _, _, _, _, _, wz, rfl,
            { b := φ.b,
              s0 := fun h0 => φ.s0 (by simpa using h0),
              s1 := fun h0 => φ.s1 (by simpa using h0),
              s2 := fun h0 => φ.s2 (by simpa using h0),
              s3 := fun h0 => φ.s3 (by simpa using h0),
              s4 := fun h0 => φ.s4 (by simpa using h0),
              s5 := fun h0 => φ.s5 (by simpa using h0),
              s6 := fun h0 => φ.s6 (by simpa using h0),
              s7 := fun h0 => φ.s7 (by simpa using h0),
              s8 := fun h0 => φ.s8 (by simpa using h0),
              s9 := fun h0 => φ.s9 (by simpa using h0),
              s10 := fun h0 => φ.s10 (by simpa using h0),
              s11 := fun _ => rfl,
              s12 := fun h0 => φ.s12 (by simpa using h0),
              s13 := fun h0 => φ.s13 (by simpa using h0),
              s14 := fun h0 => φ.s14 (by simpa using h0),
              s15 := fun h0 => φ.s15 (by simpa using h0),
              s16 := fun h0 => φ.s16 (by simpa using h0),
              s17 := fun h0 => φ.s17 (by simpa using h0),
              s18 := fun h0 => φ.s18 (by simpa using h0),
              s19 := fun h0 => φ.s19 (by simpa using h0),
              s20 := fun h0 => φ.s20 (by simpa using h0),
              s21 := fun h0 => φ.s21 (by simpa using h0),
              s22 := fun h0 => φ.s22 (by simpa using h0) }, rfl⟩
          refine hG ?_
          clear hK φ hG
          revert hk
          simp only [yielded, Region.wanted]
          go_simp
          first | done | exact fun h => h
        case q12 =>
          rintro L vs w' K ⟨u14, u15, u16, u17, u18, u19, u20, u21, u22, u23, u24, u25, u26, u27, u28, u29, u30, u31, u32, u33, u34, u35, u36, wz, rfl, φ, rfl⟩ hL hpre hcl hK G hG
          simp [Region.binds, closedFrom] at hpre hcl
          have e9 := φ.s9 (by simp [hpre])
          subst e9
          have hk := hK [u14, u15, u16, u17, u18, u19, u20, u21, u22, (.bool true), u24, u25, (undef), u27, u28, u29, u30, u31, u32, u33, u34, u35, u36] wz ⟨_, _, _, _, _, _, _, _, _, _, _, _, _, _, _, _, _, _, _, _, _, _, _, wz, rfl,
            { b := φ.b,
              s0 := fun h0 => φ.s0 (by simpa using h0),
              s1 := fun h0 => φ.s1 (by simpa using h0),
              s2 := fun h0 => φ.s2 (by simpa using h0),
              s3 := fun h0 => φ.s3 (by simpa using h0),
              s4 := fun h0 => φ.s4 (by simpa using h0),
              s5 := fun h0 => φ.s5 (by simpa using h0),
              s6 := fun h0 => φ.s6 (by simpa using h0),
              s7 := fun h0 => φ.s7 (by simpa using h0),
              s8 := fun h0 => φ.s8 (by simpa using h0),
              s9 := fun h0 => φ.s9 (by simpa using h0),
              s10 := fun h0 => φ.s10 (by simpa using h0),
              s11 := fun h0 => φ.s11 (by simpa using h0),
              s12 := fun _ => rfl,
              s13 := fun h0 => φ.s13 (by simpa using h0),
              s14 := fun h0 => φ.s14 (by simpa using h0),
              s15 := fun h0 => φ.s15 (by simpa using h0),
              s16 := fun h0 => φ.s16 (by simpa using h0),
              s17 := fun h0 => φ.s17 (by simpa using h0),
              s18 := fun h0 => φ.s18 (by simpa using h0),
              s19 := fun h0 => φ.s19 (by simpa using h0),
              s20 := fun h0 => φ.s20 (by simpa using h0),
              s21 := fun h0 => φ.s21 (by simpa using h0),
              s22 := fun h0 => φ.s22 (by simpa using h0) }, rfl⟩
          refine hG ?_
          clear hK φ hG
          revert hk
          simp only [yielded, Region.wanted]
          go_simp
          first | done | exact fun h => h
        case q13 =>
          rintro L vs w' K ⟨u14, u15, u16, u17, u18, u19, u20, u21, u22, u23, u24, u25, u26, u27, u28, u29, u30, u31, u32, u33, u34, u35, u36, wz, rfl, φ, rfl⟩ hL hpre hcl hK G hG
          simp [Region.binds, closedFrom] at hpre hcl
          have e12 := φ.s12 (by simp [hpre])
          subst e12
          have hk := hK [u14, u15, u16, u17, u18, u19, u20, u21, u22, u23, u24, u25, (undef), (undef), u28, u29, u30, u31, u32, u33, u34, u35, u36] wz ⟨_, _, _, _, _, _, _, _, _, _, _, _, _, _, _, _, _, _, _, _, _, _, _, wz, rfl,
            { b := φ.b,
              s0 := fun h0 => φ.s0 (by simpa using h0),
              s1 := fun h0 => φ.s1 (by simpa using h0),
              s2 := fun h0 => φ.s2 (by simpa using h0),
              s3 := fun h0 => φ.s3 (by simpa using h0),
              s4 := fun h0 => φ.s4 (by simpa using h0),
              s5 := fun h0 => φ.s5 (by simpa using h0),
              s6 := fun h0 => φ.s6 (by simpa using h0),
              s7 := fun h0 => φ.s7 (by simpa using h0),
              s8 := fun h0 => φ.s8 (by simpa using h0),
              s9 := fun h0 => φ.s9 (by simpa using h0),
              s10 := fun h0 => φ.s10 (by simpa using h0),
              s11 := fun h0 => φ.s11 (by simpa using h0),
              s12 := fun h0 => φ.s12 (by simpa using h0),
              s13 := fun _ => rfl,
              s14 := fun h0 => φ.s14 (by simpa using h0),
              s15 := fun h0 => φ.s15 (by simpa using h0),
              s16 := fun h0 => φ.s16 (by simpa using h0),
              s17 := fun h0 => φ.s17 (by simpa using h0),
              s18 := fun h0 => φ.s18 (by simpa using h0),
              s19 := fun h0 => φ.s19 (by simpa using h0),
              s20 := fun h0 => φ.s20 (by simpa using h0),
              s21 := fun h0 => φ.s21 (by simpa using h0),
              s22 := fun h0 => φ.s22 (by simpa using h0) }, rfl⟩
          refine hG ?_
          clear hK φ hG
          revert hk
          simp only [yielded, Region.wanted]
          go_simp
          first | done | exact fun h => h
        case q14 =>
          rintro L vs w' K ⟨u14, u15, u16, u17, u18, u19, u20, u21, u22, u23, u24, u25, u26, u27, u28, u29, u30, u31, u32, u33, u34, u35, u36, wz, rfl, φ, rfl⟩ hL hpre hcl hK G hG
          simp [Region.binds, closedFrom] at hpre hcl
          have e12 := φ.s12 (by simp [hpre])
          subst e12
          have hk := hK [u14, u15, u16, u17, u18, u19, u20, u21, u22, u23, u24, u25, (undef), u27, (undef), u29, u30, u31, u32, u33, u34, u35, u36] wz ⟨_, _, _, _, _, _, _, _, _, _, _, _, _, _, _, _, _, _, _, _, _, _, _, wz, rfl,
            { b := φ.b,
              s0 := fun h0 => φ.s0 (by simpa using h0),
              s1 := fun h0 => φ.s1 (by simpa using h0),
              s2 := fun h0 => φ.s2 (by simpa using h0),
              s3 := fun h0 => φ.s3 (by simpa using h0),
              s4 := fun h0 => φ.s4 (by simpa using h0),
              s5 := fun h0 => φ.s5 (by simpa using h0),
              s6 := fun h0 => φ.s6 (by simpa using h0),
              s7 := fun h0 => φ.s7 (by simpa using h0),
              s8 := fun h0 => φ.s8 (by simpa using h0),
              s9 := fun h0 => φ.s9 (by simpa using h0),
              s10 := fun h0 => φ.s10 (by simpa using h0),
              s11 := fun h0 => φ.s11 (by simpa using h0),
              s12 := fun h0 => φ.s12 (by simpa using h0),
              s13 := fun h0 => φ.s13 (by simpa using h0),
              s14 := fun _ => rfl,
              s15 := fun h0 => φ.s15 (by simpa using h0),
              s16 := fun h0 => φ.s16 (by simpa using h0),
              s17 := fun h0 => φ.s17 (by simpa using h0),
              s18 := fun h0 => φ.s18 (by simpa using h0),
              s19 := fun h0 => φ.s19 (by simpa using h0),
              s20 := fun h0 => φ.s20 (by simpa using h0),
              s21 := fun h0 => φ.s21 (by simpa using h0),
              s22 := fun h0 => φ.s22 (by simpa using h0) }, rfl⟩
          refine hG ?_
          clear hK φ hG
          revert hk
          simp only [yielded, Region.wanted]
          go_simp
          first | done | exact fun h => h
        case q15 =>
          rintro L vs w' K ⟨u14, u15, u16, u17, u18, u19, u20, u21, u22, u23, u24, u25, u26, u27, u28, u29, u30, u31, u32, u33, u34, u35, u36, wz, rfl, φ, rfl⟩ hL hpre hcl hK G hG
          simp [Region.binds, closedFrom] at hpre hcl
          have e12 := φ.s12 (by simp [hpre])
          subst e12
          have hk := hK [u14, u15, u16, u17, u18, u19, u20, u21, u22, u23, u24, u25, (undef), u27, u28, (undef), u30, u31, u32, u33, u34, u35, u36] wz ⟨_, _, _, _, _, _, _, _, _, _, _, _, _, _, _, _, _, _, _, _, _, _, _, wz, rfl,
            { b := φ.b,
              s0 := fun h0 => φ.s0 (by simpa using h0),
              s1 := fun h0 => φ.s1 (by simpa using h0),
              s2 := fun h0 => φ.s2 (by simpa using h0),
              s3 := fun h0 => φ.s3 (by simpa using h0),
              s4 := fun h0 => φ.s4 (by simpa using h0),
              s5 := fun h0 => φ.s5 (by simpa using h0),
              s6 := fun h0 => φ.s6 (by simpa using h0),
              s7 := fun h0 => φ.s7 (by simpa using h0),
              s8 := fun h0 => φ.s8 (by simpa using h0),
              s9 := fun h0 => φ.s9 (by simpa using h0),
              s10 := fun h0 => φ.s10 (by simpa using h0),
              s11 := fun h0 => φ.s11 (by simpa using h0),
              s12 := fun h0 => φ.s12 (by simpa using h0),
              s13 := fun h0 => φ.s13 (by simpa using h0),
              s14 := fun h0 => φ.s14 (by simpa using h0),
              s15 := fun _ => rfl,
              s16 := fun h0 => φ.s16 (by simpa using h0),
              s17 := fun h0 => φ.s17 (by simpa using h0),
              s18 := fun h0 => φ.s18 (by simpa using h0),
              s19 := fun h0 => φ.s19 (by simpa using h0),
              s20 := fun h0 => φ.s20 (by simpa using h0),
              s21 := fun h0 => φ.s21 (by simpa using h0),
              s22 := fun h0 => φ.s22 (by simpa using h0) }, rfl⟩
          refine hG ?_
          clear hK φ hG
          revert hk
          simp only [yielded, Region.wanted]
          go_simp
          first | done | exact fun h => h
        case q16 =>
          rintro L vs w' K ⟨u14, u15, u16, u17, u18, u19, u20, u21, u22, u23, u24, u25, u26, u27, u28, u29, u30, u31, u32, u33, u34, u35, u36, wz, rfl, φ, rfl⟩ hL hpre hcl hK G hG
          simp [Region.binds, closedFrom] at hpre hcl
          have e12 := φ.s12 (by simp [hpre])
          subst e12
          have hk := hK [u14, u15, u16, u17, u18, u19, u20, u21, u22, u23, u24, u25, (undef), u27, u28, u29, (undef), u31, u32, u33, u34, u35, u36] wz ⟨_, _, _, _, _, _, _, _, _, _, _, _, _, _, _, _, _, _, _, _, _, _, _, wz, rfl,
            { b := φ.b,
              s0 := fun h0 => φ.s0 (by simpa using h0),
              s1 := fun h0 => φ.s1 (by simpa using h0),
              s2 := fun h0 => φ.s2 (by simpa using h0),
              s3 := fun h0 => φ.s3 (by simpa using h0),
              s4 := fun h0 => φ.s4 (by simpa using h0),
              s5 := fun h0 => φ.s5 (by simpa using h0),
              s6 := fun h0 => φ.s6 (by simpa using h0),
              s7 := fun h0 => φ.s7 (by simpa using h0),
              s8 := fun h0 => φ.s8 (by simpa using h0),
              s9 := fun h0 => φ.s9 (by simpa using h0),
              s10 := fun h0 => φ.s10 (by simpa using h0),
              s11 := fun h0 => φ.s11 (by simpa using h0),
              s12 := fun h0 => φ.s12 (by simpa using h0),
              s13 := fun h0 => φ.s13 (by simpa using h0),
              s14 := fun h0 => φ.s14 (by simpa using h0),
              s15 := fun h0 => φ.s15 (by simpa using h0),
              s16 := fun _ => rfl,
              s17 := fun h0 => φ.s17 (by simpa using h0),
              s18 := fun h0 => φ.s18 (by simpa using h0),
              s19 := fun h0 => φ.s19 (by simpa using h0),
              s20 := fun h0 => φ.s20 (by simpa using h0),
              s21 := fun h0 => φ.s21 (by simpa using h0),
              s22 := fun h0 => φ.s22 (by simpa using h0) }, rfl⟩
          refine hG ?_
          clear hK φ hG
          revert hk
          simp only [yielded, Region.wanted]
          go_simp
          first | done | exact fun h => h
        case q17 =>
          rintro L vs w' K ⟨u14, u15, u16, u17, u18, u19, u20, u21, u22, u23, u24, u25, u26, u27, u28, u29, u30, u31, u32, u33, u34, u35, u36, wz, rfl, φ, rfl⟩ hL hpre hcl hK G hG
          simp [Region.binds, closedFrom] at hpre hcl
          have e12 := φ.s12 (by simp [hpre])
          subst e12
          have hk := hK [u14, u15, u16, u17, u18, u19, u20, u21, u22, u23, u24, u25, (undef), u27, u28, u29, u30, (undef), u32, u33, u34, u35, u36] wz ⟨_, _, _, _, _, _, _, _, _, _, _, _, _, _, _, _, _, _, _, _, _, _, _, wz, rfl,
            { b := φ.b,
              s0 := fun h0 => φ.s0 (by simpa using h0),
              s1 := fun h0 => φ.s1 (by simpa using h0),
              s2 := fun h0 => φ.s2 (by simpa using h0),
              s3 := fun h0 => φ.s3 (by simpa using h0),
              s4 := fun h0 => φ.s4 (by simpa using h0),
              s5 := fun h0 => φ.s5 (by simpa using h0),
              s6 := fun h0 => φ.s6 (by simpa using h0),
              s7 := fun h0 => φ.s7 (by simpa using h0),
              s8 := fun h0 => φ.s8 (by simpa using h0),
              s9 := fun h0 => φ.s9 (by simpa using h0),
              s10 := fun h0 => φ.s10 (by simpa using h0),
              s11 := fun h0 => φ.s11 (by simpa using h0),
              s12 := fun h0 => φ.s12 (by simpa using h0),
              s13 := fun h0 => φ.s13 (by simpa using h0),
              s14 := fun h0 => φ.s14 (by simpa using h0),
              s15 := fun h0 => φ.s15 (by simpa using h0),
              s16 := fun h0 => φ.s16 (by simpa using h0),
              s17 := fun _ => rfl,
              s18 := fun h0 => φ.s18 (by simpa using h0),
              s19 := fun h0 => φ.s19 (by simpa using h0),
              s20 := fun h0 => φ.s20 (by simpa using h0),
              s21 := fun h0 => φ.s21 (by simpa using h0),
              s22 := fun h0 => φ.s22 (by simpa using h0) }, rfl⟩
          refine hG ?_
          clear hK φ hG
          revert hk
          simp only [yielded, Region.wanted]
          go_simp
          first | done | exact fun h => h
        case q18 =>
          rintro L vs w' K ⟨u14, u15, u16, u17, u18, u19, u20, u21, u22, u23, u24, u25, u26, u27, u28, u29, u30, u31, u32, u33, u34, u35, u36, wz, rfl, φ, rfl⟩ hL hpre hcl hK G hG
          simp [Region.binds, closedFrom] at hpre hcl
          have e12 := φ.s12 (by simp [hpre])
          subst e12
          have hk := hK [u14, u15, u16, u17, u18, u19, u20, u21, u22, u23, u24, u25, (undef), u27, u28, u29, u30, u31, (undef), u33, u34, u35, u36] wz ⟨_, _, _, _, _, _, _, _, _, _, _, _, _, _, _, _, _, _, _, _, _, _, _, wz, rfl,
            { b := φ.b,
              s0 := fun h0 => φ.s0 (by simpa using h0),
              s1 := fun h0 => φ.s1 (by simpa using h0),
              s2 := fun h0 => φ.s2 (by simpa using h0),
              s3 := fun h0 => φ.s3 (by simpa using h0),
              s4 := fun h0 => φ.s4 (by simpa using h0),
              s5 := fun h0 => φ.s5 (by simpa using h0),
              s6 := fun h0 => φ.s6 (by simpa using h0),
              s7 := fun h0 => φ.s7 (by simpa using h0),
              s8 := fun h0 => φ.s8 (by simpa using h0),
              s9 := fun h0 => φ.s9 (by simpa using h0),
              s10 := fun h0 => φ.s10 (by simpa using h0),
              s11 := fun h0 => φ.s11 (by simpa using h0),
              s12 := fun h0 => φ.s12 (by simpa using h0),
              s13 := fun h0 => φ.s13 (by simpa using h0),
              s14 := fun h0 => φ.s14 (by simpa using h0),
              s15 := fun h0 => φ.s15 (by simpa using h0),
              s16 := fun h0 => φ.s16 (by simpa using h0),
              s17 := fun h0 => φ.s17 (by simpa using h0),
              s18 := fun _ => rfl,
              s19 := fun h0 => φ.s19 (by simpa using h0),
              s20 := fun h0 => φ.s20 (by simpa using h0),
              s21 := fun h0 => φ.s21 (by simpa using h0),
              s22 := fun h0 => φ.s22 (by simpa using h0) }, rfl⟩
          refine hG ?_
          clear hK φ hG
          revert hk
          simp only [yielded, Region.wanted]
          go_simp
          first | done | exact fun h => h
        case q19 =>
          rintro L vs w' K ⟨u14, u15, u16, u17, u18, u19, u20, u21, u22, u23, u24, u25, u26, u27, u28, u29, u30, u31, u32, u33, u34, u35, u36, wz, rfl, φ, rfl⟩ hL hpre hcl hK G hG
          simp [Region.binds, closedFrom] at hpre hcl
          have e12 := φ.s12 (by simp [hpre])
          subst e12
          have hk := hK [u14, u15, u16, u17, u18, u19, u20, u21, u22, u23, u24, u25, (undef), u27, u28, u29, u30, u31, u32, (undef), u34, u35, u36] wz ⟨_, _, _, _, _, _, _, _, _, _, _, _, _, _, _, _, _, _, _, _, _, _, _, wz, rfl,
            { b := φ.b,
              s0 := fun h0 => φ.s0 (by simpa using h0),
              s1 := fun h0 => φ.s1 (by simpa using h0),
              s2 := fun h0 => φ.s2 (by simpa using h0),
              s3 := fun h0 => φ.s3 (by simpa using h0),
              s4 := fun h0 => φ.s4 (by simpa using h0),
              s5 := fun h0 => φ.s5 (by simpa using h0),
              s6 := fun h0 => φ.s6 (by simpa using h0),
              s7 := fun h0 => φ.s7 (by simpa using h0),
              s8 := fun h0 => φ.s8 (by simpa using h0),
              s9 := fun h0 => φ.s9 (by simpa using h0),
              s10 := fun h0 => φ.s10 (by simpa using h0),
              s11 := fun h0 => φ.s11 (by simpa using h0),
              s12 := fun h0 => φ.s12 (by simpa using h0),
              s13 := fun h0 => φ.s13 (by simpa using h0),
              s14 := fun h0 => φ.s14 (by simpa using h0),
              s15 := fun h0 => φ.s15 (by simpa using h0),
              s16 := fun h0 => φ.s16 (by simpa using h0),
              s17 := fun h0 => φ.s17 (by simpa using h0),
              s18 := fun h0 => φ.s18 (by simpa using h0),
              s19 := fun _ => rfl,
              s20 := fun h0 => φ.s20 (by simpa using h0),
              s21 := fun h0 => φ.s21 (by simpa using h0),
              s22 := fun h0 => φ.s22 (by simpa using h0) }, rfl⟩
          refine hG ?_
          clear hK φ hG
          revert hk
          simp only [yielded, Region.wanted]
          go_simp
          first | done | exact fun h => h
        case q20 =>
          rintro L vs w' K ⟨u14, u15, u16, u17, u18, u19, u20, u21, u22, u23, u24, u25, u26, u27, u28, u29, u30, u31, u32, u33, u34, u35, u36, wz, rfl, φ, rfl⟩ hL hpre hcl hK G hG
          simp [Region.binds, closedFrom] at hpre hcl
          have e12 := φ.s12 (by simp [hpre])
          subst e12
          have hk := hK [u14, u15, u16, u17, u18, u19, u20, u21, u22, u23, u24, u25, (undef), u27, u28, u29, u30, u31, u32, u33, (undef), u35, u36] wz ⟨_, _, _, _, _, _, _, _, _, _, _, _, _, _, _, _, _, _, _, _, _, _, _, wz, rfl,
            { b := φ.b,
              s0 := fun h0 => φ.s0 (by simpa using h0),
              s1 := fun h0 => φ.s1 (by simpa using h0),
              s2 := fun h0 => φ.s2 (by simpa using h0),
              s3 := fun h0 => φ.s3 (by simpa using h0),
              s4 := fun h0 => φ.s4 (by simpa using h0),
              s5 := fun h0 => φ.s5 (by simpa using h0),
              s6 := fun h0 => φ.s6 (by simpa using h0),
              s7 := fun h0 => φ.s7 (by simpa using h0),
              s8 := fun h0 => φ.s8 (by simpa using h0),
              s9 := fun h0 => φ.s9 (by simpa using h0),
              s10 := fun h0 => φ.s10 (by simpa using h0),
              s11 := fun h0 => φ.s11 (by simpa using h0),
              s12 := fun h0 => φ.s12 (by simpa using h0),
              s13 := fun h0 => φ.s13 (by simpa using h0),
              s14 := fun h0 => φ.s14 (by simpa using h0),
              s15 := fun h0 => φ.s15 (by simpa using h0),
              s16 := fun h0 => φ.s16 (by simpa using h0),
              s17 := fun h0 => φ.s17 (by simpa using h0),
              s18 := fun h0 => φ.s18 (by simpa using h0),
              s19 := fun h0 => φ.s19 (by simpa using h0),
              s20 := fun _ => rfl,
              s21 := fun h0 => φ.s21 (by simpa using h0),
              s22 := fun h0 => φ.s22 (by simpa using h0) }, rfl⟩
          refine hG ?_
          clear hK φ hG
          revert hk
          simp only [yielded, Region.wanted]
          go_simp
          first | done | exact fun h => h
        case q21 =>
          rintro L vs w' K ⟨u14, u15, u16, u17, u18, u19, u20, u21, u22, u23, u24, u25, u26, u27, u28, u29, u30, u31, u32, u33, u34, u35, u36, wz, rfl, φ, rfl⟩ hL hpre hcl hK G hG
          simp [Region.binds, closedFrom] at hpre hcl
          have e9 := φ.s9 (by simp [hpre])
          subst e9
          have hk := hK [u14, u15, u16, u17, u18, u19, u20, u21, u22, (.bool true), u24, u25, u26, u27, u28, u29, u30, u31, u32, u33, u34, (undef), u36] wz ⟨_, _, _, _, _, _, _, _, _, _, _, _, _, _, _, _, _, _, _, _, _, _, _, wz, rfl,
            { b := φ.b,
              s0 := fun h0 => φ.s0 (by simpa using h0),
              s1 := fun h0 => φ.s1 (by simpa using h0),
              s2 := fun h0 => φ.s2 (by simpa using h0),
              s3 := fun h0 => φ.s3 (by simpa using h0),
              s4 := fun h0 => φ.s4 (by simpa using h0),
              s5 := fun h0 => φ.s5 (by simpa using h0),
              s6 := fun h0 => φ.s6 (by simpa using h0),
              s7 := fun h0 => φ.s7 (by simpa using h0),
              s8 := fun h0 => φ.s8 (by simpa using h0),
              s9 := fun h0 => φ.s9 (by simpa using h0),
              s10 := fun h0 => φ.s10 (by simpa using h0),
              s11 := fun h0 => φ.s11 (by simpa using h0),
              s12 := fun h0 => φ.s12 (by simpa using h0),
              s13 := fun h0 => φ.s13 (by simpa using h0),
              s14 := fun h0 => φ.s14 (by simpa using h0),
              s15 := fun h0 => φ.s15 (by simpa using h0),
              s16 := fun h0 => φ.s16 (by simpa using h0),
              s17 := fun h0 => φ.s17 (by simpa using h0),
              s18 := fun h0 => φ.s18 (by simpa using h0),
              s19 := fun h0 => φ.s19 (by simpa using h0),
              s20 := fun h0 => φ.s20 (by simpa using h0),
              s21 := fun _ => rfl,
              s22 := fun h0 => φ.s22 (by simpa using h0) }, rfl⟩
          refine hG ?_
          clear hK φ hG
          revert hk
          simp only [yielded, Region.wanted]
          go_simp
          first | done | exact fun h => h
        case q22 =>
          rintro L vs w' K ⟨u14, u15, u16, u17, u18, u19, u20, u21, u22, u23, u24, u25, u26, u27, u28, u29, u30, u31, u32, u33, u34, u35, u36, wz, rfl, φ, rfl⟩ hL hpre hcl hK G hG
          simp [Region.binds, closedFrom] at hpre hcl
          have e9 := φ.s9 (by simp [hpre])
          subst e9
          have e21 := φ.s21 (by simp [hpre])
          subst e21
          have hk := hK [u14, u15, u16, u17, u18, u19, u20, u21, u22, (.bool true), u24, u25, u26, u27, u28, u29, u30, u31, u32, u33, u34, (undef), (.bool true)] wz ⟨_, _, _, _, _, _, _, _, _, _, _, _, _, _, _, _, _, _, _, _, _, _, _, wz, rfl,
            { b := φ.b,
              s0 := fun h0 => φ.s0 (by simpa using h0),
              s1 := fun h0 => φ.s1 (by simpa using h0),
              s2 := fun h0 => φ.s2 (by simpa using h0),
              s3 := fun h0 => φ.s3 (by simpa using h0),
              s4 := fun h0 => φ.s4 (by simpa using h0),
              s5 := fun h0 => φ.s5 (by simpa using h0),
              s6 := fun h0 => φ.s6 (by simpa using h0),
              s7 := fun h0 => φ.s7 (by simpa using h0),
              s8 := fun h0 => φ.s8 (by simpa using h0),
              s9 := fun h0 => φ.s9 (by simpa using h0),
              s10 := fun h0 => φ.s10 (by simpa using h0),
              s11 := fun h0 => φ.s11 (by simpa using h0),
              s12 := fun h0 => φ.s12 (by simpa using h0),
              s13 := fun h0 => φ.s13 (by simpa using h0),
              s14 := fun h0 => φ.s14 (by simpa using h0),
              s15 := fun h0 => φ.s15 (by simpa using h0),
              s16 := fun h0 => φ.s16 (by simpa using h0),
              s17 := fun h0 => φ.s17 (by simpa using h0),
              s18 := fun h0 => φ.s18 (by simpa using h0),
              s19 := fun h0 => φ.s19 (by simpa using h0),
              s20 := fun h0 => φ.s20 (by simpa using h0),
              s21 := fun h0 => φ.s21 (by simpa using h0),
              s22 := fun _ => rfl }, rfl⟩
          refine hG ?_
          clear hK φ hG
          revert hk
          go_simp
          first | done | exact fun h => h
        case hend =>
          rintro vs w' ⟨u14, u15, u16, u17, u18, u19, u20, u21, u22, u23, u24, u25, u26, u27, u28, u29, u30, u31, u32, u33, u34, u35, u36, wz, rfl, φ, rfl⟩ G hG
          obtain rfl := φ.s22 rfl
          have b9 := φ.b
          clear φ
          refine hG ?_
          clear hG
          have b2 := b.trans (b9.mono b.size)
          clear x0 x1 sm ltM lt5 b9 b bMr neM bM cM
          go_simp
          go_wp2_with fail
          go_ret
          rw [HF.out]
          exact ⟨rfl, b2⟩
    · obtain rfl : kk = n := by omega
      have hltz : ¬ (kk : Int) < (kk : Int) := by omega
      have hfin : rightD l = decide ((kk : Int) ≤ 64) := by
        unfold rightD
        rw [decide_eq_decide, HN.out]
        constructor
        · rintro ⟨h, _⟩; omega
        · intro h; exact ⟨by omega, AA.out⟩
      have HF := Lib.hid hfin
      clear hfin hsl sm
      go_wp2_with fail
      go_ret
      rw [HF.out]
      exact ⟨by simp, b⟩
end Go.Proofs.Ytimhdkgllgdamaa
