/- Walks of the queue's Pop and Push. -/
import Derived.Test.YtimhdkgllgdamaaH
namespace Go.Proofs.Ytimhdkgllgdamaa
open Go.RowKit Go.Lib D
set_option linter.unusedVariables false
attribute [local go_sem] Act.puts

/-- All but a variable and a row stays. -/
structure Two (w w' : World) (x : Nat) (r : Option Nat) : Prop where
  os : w'.os = w.os
  tape : w'.tape = w.tape
  output : w'.output = w.output
  size : w.heap.size ≤ w'.heap.size
  block : ∀ k, k < w.heap.size → k ≠ x → some k ≠ r → w'.heap[k]? = w.heap[k]?
theorem Two.of_grown {w w' : World} {x : Nat} {r : Option Nat} (h : w.grownBy w' r) : Two w w' x r := ⟨h.os, h.tape, h.output, h.size, fun k hk _ hr => h.block k hk hr⟩
theorem Two.refl (w : World) (x : Nat) (r : Option Nat) : Two w w x r := .of_grown (World.grownBy.refl w r)
/-- A row that is what it was, or is new. -/
def Row (w : World) (r r' : Option Nat) : Prop := r' = r ∨ ∃ y, r' = some y ∧ w.heap.size ≤ y
theorem Row.refl (w : World) (r : Option Nat) : Row w r r := .inl rfl
theorem Row.trans {w w1 : World} {r r1 r2 : Option Nat} (h : Row w r r1) (h2 : Row w1 r1 r2) (hs : w.heap.size ≤ w1.heap.size) : Row w r r2 := by
  rcases h2 with rfl | ⟨y, rfl, hy⟩
  · exact h
  · exact .inr ⟨y, rfl, Nat.le_trans hs hy⟩
theorem Two.trans {w w1 w2 : World} {x : Nat} {r r1 : Option Nat} (h : Two w w1 x r) (h2 : Two w1 w2 x r1) (hr : Row w r r1) : Two w w2 x r :=
  ⟨h2.os.trans h.os, h2.tape.trans h.tape, h2.output.trans h.output, Nat.le_trans h.size h2.size, fun k hk hx hkr => by
    refine (h2.block k (Nat.lt_of_lt_of_le hk h.size) hx ?_).trans (h.block k hk hx hkr)
    rcases hr with rfl | ⟨y, rfl, hy⟩
    · exact hkr
    · intro e
      injection e with e
      omega⟩
theorem Two.below {w w1 w2 : World} {x : Nat} {r : Option Nat} (h : Two w w1 x r) (hb : Below w1.heap.size w1 w2) : Two w w2 x r :=
  h.trans (.of_grown ⟨hb.os, hb.tape, hb.output, hb.size, fun k hk _ => hb.block k hk⟩) (Row.refl _ _)
theorem Two.grown {w w1 w2 : World} {x : Nat} {r r1 : Option Nat} (h : Two w w1 x r) (hg : w1.grownBy w2 r1) (hr : Row w r r1) : Two w w2 x r := h.trans (.of_grown hg) hr
theorem Two.setx {w w1 : World} {x : Nat} {r : Option Nat} (h : Two w w1 x r) (j : Nat) (u : Value) : Two w (w1.setCell ⟨x, j, none⟩ u) x r :=
  ⟨h.os, h.tape, h.output, by simpa using h.size, fun k hk hx hkr => by
    rw [← h.block k hk hx hkr]
    simp [World.setCell, Array.getElem?_modify, Ne.symm hx]⟩
/-- What is older than the variable and the row stays. -/
theorem Two.old {w0 w w1 : World} {x B : Nat} {r : Option Nat} (hb : Below B w0 w) (h : Two w w1 x r) (hB : B ≤ w.heap.size) (hx : B ≤ x) (hr : ∀ b, r = some b → B ≤ b) : Below B w0 w1 :=
  ⟨h.os.trans hb.os, h.tape.trans hb.tape, h.output.trans hb.output, Nat.le_trans hb.size h.size, fun k hk => by
    refine (h.block k (Nat.lt_of_lt_of_le hk hB) (by omega) (fun e => ?_)).trans (hb.block k hk)
    have := hr k e.symm
    omega⟩
/-- A queue's variable, and its row, or none. -/
structure HV (w : World) (QX base n : Nat) (v : Value) (l : List Du) : Prop where
  q : w.cell? ⟨QX, 0, none⟩ = some v
  fq : w.frozen? ⟨QX, 0, none⟩ = false
  own : w.ownsRow base 30 2 v n (l.flatMap Du.enc)
  len : l.length = n
  ne : some QX ≠ v.ownBlock
  lt : QX < w.heap.size
theorem HQ.hv {w : World} {QX base b n c : Nat} {l : List Du} (h : HQ w QX base b n c l) : HV w QX base n (.slice (some ⟨b, 0, none⟩) n c) l :=
  ⟨h.q, h.fq, h.own, h.len, fun e => h.ne (by simpa [Value.ownBlock] using e), h.lt⟩
theorem HV.hq {w : World} {QX base b n c : Nat} {l : List Du} (h : HV w QX base n (.slice (some ⟨b, 0, none⟩) n c) l) : HQ w QX base b n c l :=
  ⟨h.q, h.fq, h.own, h.len, fun e => h.ne (by rw [e]; rfl), h.lt⟩
theorem HV.at_ {w : World} {QX base n : Nat} {v : Value} {l : List Du} (h : HV w QX base n v l) (h0 : 0 < n) : ∃ b c, v = .slice (some ⟨b, 0, none⟩) n c ∧ HQ w QX base b n c l := by
  obtain ⟨b, c, rfl⟩ := own_slice h.own h0
  exact ⟨b, c, rfl, h.hq⟩
theorem HV.below {w w' : World} {QX base n : Nat} {v : Value} {l : List Du} (h : HV w QX base n v l) (hb : Below w.heap.size w w') : HV w' QX base n v l :=
  ⟨(hb.cell (p := ⟨QX, 0, none⟩) h.lt).trans h.q, (hb.frozen (p := ⟨QX, 0, none⟩) h.lt).trans h.fq, own_below h.own hb, h.len, h.ne, Nat.lt_of_lt_of_le h.lt hb.size⟩

set_option maxHeartbeats 4000000 in
theorem popm_any (QX base b m c : Nat) (l : List Du) (w : World) (h : HQ w QX base b (m + 1) c l) (hn1 : m + 1 ≤ 1000000) :
    Calls Try.prog 57 #[.pointer (some ⟨QX, 0, none⟩)] w fun e w' => e = .returned (.iface 30 (.agg #[.int .i64 l[m]!.when_, .int .i64 l[m]!.which])) ∧ HQ w' QX base b m c (l.take m) ∧ Two w w' QX (some b) := by
  have hl := h.len
  have q := h.q
  have fq := h.fq
  have lt := h.lt
  have cap := (own_cap h.own).1
  have p0 : w.cell? ⟨b, m * 2, none⟩ = some (.int .i64 l[m]!.when_) := own_cell h.own (m * 2) _ (by have := flat_at Du.enc_len l m 0 _ (by omega) rfl; simpa using this)
  have p1 : w.cell? ⟨b, m * 2 + 1, none⟩ = some (.int .i64 l[m]!.which) := own_cell h.own (m * 2 + 1) _ (flat_at Du.enc_len l m 1 _ (by omega) rfl)
  have own2 := own_take (n' := m) h.own (by omega)
  rw [flat_take Du.enc_len] at own2
  have hres1 : HQ (w.setCell ⟨QX, 0, none⟩ (.slice (some ⟨b, 0, none⟩) m c)) QX base b m c (l.take m) := by
    refine ⟨World.cell?_setCell_same _ _ _ q, by simpa using fq, own2.kept (row := some QX) (grown_set (World.grownBy.refl _ _) _) (by simp [Value.ownBlock]; exact fun e => h.ne e.symm), by rw [List.length_take]; omega, h.ne, by simp; omega⟩
  have hres : HQ ((w.setCell ⟨QX, 0, none⟩ (.slice (some ⟨b, 0, none⟩) m c)).alloc (.cells #[.int .i64 l[m]!.when_, .int .i64 l[m]!.which] 30)) QX base b m c (l.take m) := hres1.below ((Below.refl _ _).alloc (Nat.le_refl _) _)
  have htwo : Two w ((w.setCell ⟨QX, 0, none⟩ (.slice (some ⟨b, 0, none⟩) m c)).alloc (.cells #[.int .i64 l[m]!.when_, .int .i64 l[m]!.which] 30)) QX (some b) := ((Two.refl w QX _).setx 0 _).below ((Below.refl _ _).alloc (Nat.le_refl _) _)
  clear hres1
  have HR := Lib.hid hres
  have HT := Lib.hid htwo
  have z1 : ((m + 1 : Nat) : Int) - 1 = (m : Int) := by omega
  have z2 : (m : Int) < ((m + 1 : Nat) : Int) := by omega
  have z3 : (m : Int) ≤ (c : Int) := by omega
  have hne := h.ne
  clear h own2 hres htwo hl
  generalize l[m]! = x at *
  go_enter Try.func57, Try.ntmps57
  go_wp2_with fail
  go_ret
  exact ⟨by simp, HR.out, HT.out⟩
structure PushR (w0 : World) (QX base n : Nat) (v : Value) (l : List Du) (d : Du) (L : Nat → Bool) (u4 u5 u6 u7 u8 u9 u10 u11 u12 : Value) (wz : World) : Prop where
  b : w0.grownBy wz v.ownBlock
  s0 : L 0 = true → u4 = .pointer (some ⟨QX, 0, none⟩)
  s1 : L 1 = true → u5 = .pointer (some ⟨QX, 0, none⟩)
  s2 : L 2 = true → u6 = .pointer (some ⟨QX, 0, none⟩)
  s3 : L 3 = true → u7 = v
  s4 : L 4 = true → u8 = .iface 30 (.agg #[.int .i64 d.when_, .int .i64 d.which])
  s5 : L 5 = true → u9 = .agg #[.int .i64 d.when_, .int .i64 d.which]
  s6 : L 6 = true → L 7 = false → ∃ X, u10 = .slice (some ⟨X, 0, none⟩) 1 1 ∧ w0.heap.size ≤ X ∧ X < wz.heap.size ∧ Lay wz X [.int .i64 d.when_, .int .i64 d.which]
  o : L 7 = false → wz.ownsRow base 30 2 v n (l.flatMap Du.enc)
  s7 : L 7 = true → wz.ownsRow base 30 2 u11 (n + 1) (l.flatMap Du.enc ++ [.int .i64 d.when_, .int .i64 d.which]) ∧ Row w0 v.ownBlock u11.ownBlock
  s8 : L 8 = true → u12 = .pointer (some ⟨QX, 0, none⟩)
def PushRPhi (w0 : World) (QX base n : Nat) (v : Value) (l : List Du) (d : Du) (L : Nat → Bool) (vs : List Value) (w' : World) : Prop :=
  ∃ u4 u5 u6 u7 u8 u9 u10 u11 u12 wz, vs = [u4, u5, u6, u7, u8, u9, u10, u11, u12] ∧ PushR w0 QX base n v l d L u4 u5 u6 u7 u8 u9 u10 u11 u12 wz ∧ w' = if L 9 = true then wz.setCell ⟨QX, 0, none⟩ u11 else wz

set_option maxHeartbeats 8000000 in
set_option maxRecDepth 100000 in
theorem pushm_any (QX base n : Nat) (v : Value) (l : List Du) (d : Du) (w : World) (h : HV w QX base n v l) (hn1 : n ≤ 1000000) (hbase : base ≤ w.heap.size) :
    Calls Try.prog 58 #[.pointer (some ⟨QX, 0, none⟩), .iface 30 (.agg #[.int .i64 d.when_, .int .i64 d.which])] w fun e w' => e = .returned (.tuple #[]) ∧ ∃ v', HV w' QX base (n + 1) v' (l ++ [d]) ∧ Row w v.ownBlock v'.ownBlock ∧ Two w w' QX v.ownBlock := by
  obtain ⟨i0, hi, hz0, hz1, hz2⟩ := info_parts info30
  have q : w.drew.cell? ⟨QX, 0, none⟩ = some v := h.q
  have fq : w.drew.frozen? ⟨QX, 0, none⟩ = false := h.fq
  have own : w.drew.ownsRow base 30 2 v n (l.flatMap Du.enc) := h.own
  have lt : QX < w.drew.heap.size := h.lt
  have hne := h.ne
  have hl := h.len
  have hbd : base ≤ w.drew.heap.size := hbase
  have hvlt : ∀ g, v.ownBlock = some g → g < w.drew.heap.size := fun g hg => (own.lt g hg).2
  have T0 : Two w w.drew QX v.ownBlock := .of_grown ⟨rfl, rfl, rfl, Nat.le_refl _, fun _ _ _ => rfl⟩
  clear h hbase
  go_enter Try.func58, Try.ntmps58
  go_wp2_with fail
  refine wp_region_rg (by kernel_rfl) (by kernel_rfl) [4, 5, 6, 7, 8, 9, 10, 11, 12] (PushRPhi w.drew QX base n v l d) ?h0 ⟨?q0, ?q1, ?q2, ?q3, ?q4, ?q5, ?q6, ?q7, ?q8, ?q9, trivial⟩ ?hend
  case h0 => exact ⟨_, _, _, _, _, _, _, _, _, _, rfl, ⟨World.grownBy.refl _ _, (fun h => by cases h), (fun h => by cases h), (fun h => by cases h), (fun h => by cases h), (fun h => by cases h), (fun h => by cases h), (fun h => by cases h), (fun _ => own), (fun h => by cases h), (fun h => by cases h)⟩, rfl⟩
  case q0 =>
    rintro L vs w' K ⟨u4, u5, u6, u7, u8, u9, u10, u11, u12, wz, rfl, φ, rfl⟩ hL hpre hcl hK G hG
    simp [Region.binds, closedFrom] at hpre hcl
    have hst : L 9 = false := by
      cases h : L 9 with
      | false => rfl
      | true => simp [h, hL] at hcl
    simp only [hst, Bool.false_eq_true, if_false] at hK hG
    have hk := hK [(.pointer (some ⟨QX, 0, none⟩)), u5, u6, u7, u8, u9, u10, u11, u12] wz ⟨_, _, _, _, _, _, _, _, _, wz, rfl,
      { b := φ.b,
        s0 := fun _ => rfl,
        s1 := fun h0 => φ.s1 (by simpa using h0),
        s2 := fun h0 => φ.s2 (by simpa using h0),
        s3 := fun h0 => φ.s3 (by simpa using h0),
        s4 := fun h0 => φ.s4 (by simpa using h0),
        s5 := fun h0 => φ.s5 (by simpa using h0),
        s6 := fun h0 h1 => φ.s6 (by simpa using h0) (by simpa using h1),
        o := fun h0 => φ.o (by simpa using h0),
        s7 := fun h0 => φ.s7 (by simpa using h0),
        s8 := fun h0 => φ.s8 (by simpa using h0) }, by simp [hst]⟩
    refine hG ?_
    clear hK φ hG
    revert hk
    go_simp
    first | done | exact fun h => h
  case q1 =>
    rintro L vs w' K ⟨u4, u5, u6, u7, u8, u9, u10, u11, u12, wz, rfl, φ, rfl⟩ hL hpre hcl hK G hG
    simp [Region.binds, closedFrom] at hpre hcl
    have hst : L 9 = false := by
      cases h : L 9 with
      | false => rfl
      | true => simp [h, hL] at hcl
    simp only [hst, Bool.false_eq_true, if_false] at hK hG
    have hk := hK [u4, (.pointer (some ⟨QX, 0, none⟩)), u6, u7, u8, u9, u10, u11, u12] wz ⟨_, _, _, _, _, _, _, _, _, wz, rfl,
      { b := φ.b,
        s0 := fun h0 => φ.s0 (by simpa using h0),
        s1 := fun _ => rfl,
        s2 := fun h0 => φ.s2 (by simpa using h0),
        s3 := fun h0 => φ.s3 (by simpa using h0),
        s4 := fun h0 => φ.s4 (by simpa using h0),
        s5 := fun h0 => φ.s5 (by simpa using h0),
        s6 := fun h0 h1 => φ.s6 (by simpa using h0) (by simpa using h1),
        o := fun h0 => φ.o (by simpa using h0),
        s7 := fun h0 => φ.s7 (by simpa using h0),
        s8 := fun h0 => φ.s8 (by simpa using h0) }, by simp [hst]⟩
    refine hG ?_
    clear hK φ hG
    revert hk
    go_simp
    first | done | exact fun h => h
  case q2 =>
    rintro L vs w' K ⟨u4, u5, u6, u7, u8, u9, u10, u11, u12, wz, rfl, φ, rfl⟩ hL hpre hcl hK G hG
    simp [Region.binds, closedFrom] at hpre hcl
    have hst : L 9 = false := by
      cases h : L 9 with
      | false => rfl
      | true => simp [h, hL] at hcl
    simp only [hst, Bool.false_eq_true, if_false] at hK hG
    have e1 := φ.s1 (by simp [hpre])
    subst e1
    have hk := hK [u4, (.pointer (some ⟨QX, 0, none⟩)), (.pointer (some ⟨QX, 0, none⟩)), u7, u8, u9, u10, u11, u12] wz ⟨_, _, _, _, _, _, _, _, _, wz, rfl,
      { b := φ.b,
        s0 := fun h0 => φ.s0 (by simpa using h0),
        s1 := fun h0 => φ.s1 (by simpa using h0),
        s2 := fun _ => rfl,
        s3 := fun h0 => φ.s3 (by simpa using h0),
        s4 := fun h0 => φ.s4 (by simpa using h0),
        s5 := fun h0 => φ.s5 (by simpa using h0),
        s6 := fun h0 h1 => φ.s6 (by simpa using h0) (by simpa using h1),
        o := fun h0 => φ.o (by simpa using h0),
        s7 := fun h0 => φ.s7 (by simpa using h0),
        s8 := fun h0 => φ.s8 (by simpa using h0) }, by simp [hst]⟩
    refine hG ?_
    clear hK φ hG
    revert hk
    go_simp
    first | done | exact fun h => h
  case q3 =>
    rintro L vs w' K ⟨u4, u5, u6, u7, u8, u9, u10, u11, u12, wz, rfl, φ, rfl⟩ hL hpre hcl hK G hG
    simp [Region.binds, closedFrom] at hpre hcl
    have hst : L 9 = false := by
      cases h : L 9 with
      | false => rfl
      | true => simp [h, hL] at hcl
    simp only [hst, Bool.false_eq_true, if_false] at hK hG
    have e2 := φ.s2 (by simp [hpre])
    subst e2
    have L7 : L 7 = false := by
      cases h : L 7 with
      | false => rfl
      | true => simp [h, hL] at hcl
    have ce := φ.b.cell (a := ⟨QX, 0, none⟩) q hne
    obtain ⟨vA, vc, hv⟩ := own_shape own
    have hk := hK [u4, u5, (.pointer (some ⟨QX, 0, none⟩)), (v), u8, u9, u10, u11, u12] wz ⟨_, _, _, _, _, _, _, _, _, wz, rfl,
      { b := φ.b,
        s0 := fun h0 => φ.s0 (by simpa using h0),
        s1 := fun h0 => φ.s1 (by simpa using h0),
        s2 := fun h0 => φ.s2 (by simpa using h0),
        s3 := fun _ => rfl,
        s4 := fun h0 => φ.s4 (by simpa using h0),
        s5 := fun h0 => φ.s5 (by simpa using h0),
        s6 := fun h0 h1 => φ.s6 (by simpa using h0) (by simpa using h1),
        o := fun h0 => φ.o (by simpa using h0),
        s7 := fun h0 => φ.s7 (by simpa using h0),
        s8 := fun h0 => φ.s8 (by simpa using h0) }, by simp [hst]⟩
    refine hG ?_
    clear hK φ hG
    revert hk
    go_simp
    first | done | exact fun h => h
  case q4 =>
    rintro L vs w' K ⟨u4, u5, u6, u7, u8, u9, u10, u11, u12, wz, rfl, φ, rfl⟩ hL hpre hcl hK G hG
    simp [Region.binds, closedFrom] at hpre hcl
    have hst : L 9 = false := by
      cases h : L 9 with
      | false => rfl
      | true => simp [h, hL] at hcl
    simp only [hst, Bool.false_eq_true, if_false] at hK hG
    have hk := hK [u4, u5, u6, u7, (.iface 30 (.agg #[.int .i64 d.when_, .int .i64 d.which])), u9, u10, u11, u12] wz ⟨_, _, _, _, _, _, _, _, _, wz, rfl,
      { b := φ.b,
        s0 := fun h0 => φ.s0 (by simpa using h0),
        s1 := fun h0 => φ.s1 (by simpa using h0),
        s2 := fun h0 => φ.s2 (by simpa using h0),
        s3 := fun h0 => φ.s3 (by simpa using h0),
        s4 := fun _ => rfl,
        s5 := fun h0 => φ.s5 (by simpa using h0),
        s6 := fun h0 h1 => φ.s6 (by simpa using h0) (by simpa using h1),
        o := fun h0 => φ.o (by simpa using h0),
        s7 := fun h0 => φ.s7 (by simpa using h0),
        s8 := fun h0 => φ.s8 (by simpa using h0) }, by simp [hst]⟩
    refine hG ?_
    clear hK φ hG
    revert hk
    go_simp
    first | done | exact fun h => h
  case q5 =>
    rintro L vs w' K ⟨u4, u5, u6, u7, u8, u9, u10, u11, u12, wz, rfl, φ, rfl⟩ hL hpre hcl hK G hG
    simp [Region.binds, closedFrom] at hpre hcl
    have hst : L 9 = false := by
      cases h : L 9 with
      | false => rfl
      | true => simp [h, hL] at hcl
    simp only [hst, Bool.false_eq_true, if_false] at hK hG
    have e4 := φ.s4 (by simp [hpre])
    subst e4
    have hk := hK [u4, u5, u6, u7, (.iface 30 (.agg #[.int .i64 d.when_, .int .i64 d.which])), (.agg #[.int .i64 d.when_, .int .i64 d.which]), u10, u11, u12] wz ⟨_, _, _, _, _, _, _, _, _, wz, rfl,
      { b := φ.b,
        s0 := fun h0 => φ.s0 (by simpa using h0),
        s1 := fun h0 => φ.s1 (by simpa using h0),
        s2 := fun h0 => φ.s2 (by simpa using h0),
        s3 := fun h0 => φ.s3 (by simpa using h0),
        s4 := fun h0 => φ.s4 (by simpa using h0),
        s5 := fun _ => rfl,
        s6 := fun h0 h1 => φ.s6 (by simpa using h0) (by simpa using h1),
        o := fun h0 => φ.o (by simpa using h0),
        s7 := fun h0 => φ.s7 (by simpa using h0),
        s8 := fun h0 => φ.s8 (by simpa using h0) }, by simp [hst]⟩
    refine hG ?_
    clear hK φ hG
    revert hk
    go_simp
    first | done | exact fun h => h
  case q6 =>
    rintro L vs w' K ⟨u4, u5, u6, u7, u8, u9, u10, u11, u12, wz, rfl, φ, rfl⟩ hL hpre hcl hK G hG
    simp [Region.binds, closedFrom] at hpre hcl
    have hst : L 9 = false := by
      cases h : L 9 with
      | false => rfl
      | true => simp [h, hL] at hcl
    simp only [hst, Bool.false_eq_true, if_false] at hK hG
    have e5 := φ.s5 (by simp [hpre])
    subst e5
    have bs := φ.b.size
    have hk := hK [u4, u5, u6, u7, u8, (.agg #[.int .i64 d.when_, .int .i64 d.which]), (.slice (some ⟨wz.heap.size, 0, none⟩) 1 1), u11, u12] (wz.alloc (.cells #[.int .i64 d.when_, .int .i64 d.which] 30)) ⟨_, _, _, _, _, _, _, _, _, (wz.alloc (.cells #[.int .i64 d.when_, .int .i64 d.which] 30)), rfl,
      { b := grown_alloc φ.b _,
        s0 := fun h0 => φ.s0 (by simpa using h0),
        s1 := fun h0 => φ.s1 (by simpa using h0),
        s2 := fun h0 => φ.s2 (by simpa using h0),
        s3 := fun h0 => φ.s3 (by simpa using h0),
        s4 := fun h0 => φ.s4 (by simpa using h0),
        s5 := fun h0 => φ.s5 (by simpa using h0),
        s6 := fun _ _ => ⟨wz.heap.size, rfl, bs, by simp, Lay.new wz _ 30⟩,
        o := fun h => (φ.o (by simpa using h)).alloc _,
        s7 := fun h => by
          obtain ⟨k1, k2⟩ := φ.s7 (by simpa using h)
          exact ⟨k1.alloc _, k2⟩,
        s8 := fun h0 => φ.s8 (by simpa using h0) }, by simp [hst]⟩
    refine hG ?_
    clear hK φ hG
    revert hk
    go_simp
    first | done | exact fun h => h
  case q7 =>
    rintro L vs w' K ⟨u4, u5, u6, u7, u8, u9, u10, u11, u12, wz, rfl, φ, rfl⟩ hL hpre hcl hK G hG
    simp [Region.binds, closedFrom] at hpre hcl
    have hst : L 9 = false := by
      cases h : L 9 with
      | false => rfl
      | true => simp [h, hL] at hcl
    simp only [hst, Bool.false_eq_true, if_false] at hK hG
    have e3 := φ.s3 (by simp [hpre])
    subst e3
    have o1 := φ.o hL
    obtain ⟨X, rfl, x1, x2, x3⟩ := φ.s6 (by simp [hpre]) hL
    refine hG (step_append_own wz rfl (.tmp 7) (.tmp 10) 49 rfl base 30 i0 _ 2 16 Try.underlying49 hi hz0 hz1 hz2 rfl (by decide) u7 n _ (by simp [Act.eval, Act.puts, Act.put]) o1 ⟨X, 0, none⟩ 1 1 [.int .i64 d.when_, .int .i64 d.which] (by simp [Act.eval, Act.puts, Act.put]) rfl x3 (by intro u hu; simp at hu; rcases hu with rfl | rfl <;> rfl) (by unfold maxLen; omega) (by omega) (Nat.le_trans hbd φ.b.size) ?_)
    intro v' w9 ownN hgrow hat
    have b9 := φ.b.trans hgrow
    have bs := φ.b.size
    have hk := hK [u4, u5, u6, u7, u8, u9, (.slice (some ⟨X, 0, none⟩) 1 1), (v'), u12] w9 ⟨_, _, _, _, _, _, _, _, _, w9, rfl,
      { b := b9,
        s0 := fun h0 => φ.s0 (by simpa using h0),
        s1 := fun h0 => φ.s1 (by simpa using h0),
        s2 := fun h0 => φ.s2 (by simpa using h0),
        s3 := fun h0 => φ.s3 (by simpa using h0),
        s4 := fun h0 => φ.s4 (by simpa using h0),
        s5 := fun h0 => φ.s5 (by simpa using h0),
        s6 := fun _ h => by simp at h,
        o := fun h => by simp at h,
        s7 := fun _ => ⟨ownN, hat.elim .inl fun e => .inr ⟨_, e, bs⟩⟩,
        s8 := fun h0 => φ.s8 (by simpa using h0) }, by simp [hst]⟩
    clear hK φ hG
    revert hk
    go_simp
    first | done | exact fun h => h
  case q8 =>
    rintro L vs w' K ⟨u4, u5, u6, u7, u8, u9, u10, u11, u12, wz, rfl, φ, rfl⟩ hL hpre hcl hK G hG
    simp [Region.binds, closedFrom] at hpre hcl
    have hst : L 9 = false := by
      cases h : L 9 with
      | false => rfl
      | true => simp [h, hL] at hcl
    simp only [hst, Bool.false_eq_true, if_false] at hK hG
    have e0 := φ.s0 (by simp [hpre])
    subst e0
    have hk := hK [(.pointer (some ⟨QX, 0, none⟩)), u5, u6, u7, u8, u9, u10, u11, (.pointer (some ⟨QX, 0, none⟩))] wz ⟨_, _, _, _, _, _, _, _, _, wz, rfl,
      { b := φ.b,
        s0 := fun h0 => φ.s0 (by simpa using h0),
        s1 := fun h0 => φ.s1 (by simpa using h0),
        s2 := fun h0 => φ.s2 (by simpa using h0),
        s3 := fun h0 => φ.s3 (by simpa using h0),
        s4 := fun h0 => φ.s4 (by simpa using h0),
        s5 := fun h0 => φ.s5 (by simpa using h0),
        s6 := fun h0 h1 => φ.s6 (by simpa using h0) (by simpa using h1),
        o := fun h0 => φ.o (by simpa using h0),
        s7 := fun h0 => φ.s7 (by simpa using h0),
        s8 := fun _ => rfl }, by simp [hst]⟩
    refine hG ?_
    clear hK φ hG
    revert hk
    go_simp
    first | done | exact fun h => h
  case q9 =>
    rintro L vs w' K ⟨u4, u5, u6, u7, u8, u9, u10, u11, u12, wz, rfl, φ, rfl⟩ hL hpre hcl hK G hG
    simp [Region.binds, closedFrom] at hpre hcl
    simp only [hL, Bool.false_eq_true, if_false] at hK hG
    have e8 := φ.s8 (by simp [hpre])
    subst e8
    have ce := φ.b.cell (a := ⟨QX, 0, none⟩) q hne
    have cf := (World.frozen?_of_block (w := w.drew) (w' := wz) (a := ⟨QX, 0, none⟩) (φ.b.block QX lt hne)).trans fq
    obtain ⟨o7, r7⟩ := φ.s7 (by simp [hpre])
    obtain ⟨A3, c3, rfl⟩ := own_shape o7
    have hk := hK [u4, u5, u6, u7, u8, u9, u10, (.slice A3 (n + 1) c3), (.pointer (some ⟨QX, 0, none⟩))] (wz.setCell ⟨QX, 0, none⟩ (.slice A3 (n + 1) c3)) ⟨_, _, _, _, _, _, _, _, _, wz, rfl,
      { b := φ.b,
        s0 := fun h0 => φ.s0 (by simpa using h0),
        s1 := fun h0 => φ.s1 (by simpa using h0),
        s2 := fun h0 => φ.s2 (by simpa using h0),
        s3 := fun h0 => φ.s3 (by simpa using h0),
        s4 := fun h0 => φ.s4 (by simpa using h0),
        s5 := fun h0 => φ.s5 (by simpa using h0),
        s6 := fun h0 h1 => φ.s6 (by simpa using h0) (by simpa using h1),
        o := fun h0 => φ.o (by simpa using h0),
        s7 := fun h0 => φ.s7 (by simpa using h0),
        s8 := fun h0 => φ.s8 (by simpa using h0) }, by simp⟩
    refine hG ?_
    clear hK φ hG
    revert hk
    go_simp
    first | done | exact fun h => h
  case hend =>
    rintro vs w' ⟨u4, u5, u6, u7, u8, u9, u10, u11, u12, wz, rfl, φ, rfl⟩ G hG
    obtain ⟨o7, r7⟩ := φ.s7 rfl
    have b9 := φ.b
    clear φ
    obtain ⟨A3, c3, rfl⟩ := own_shape o7
    have hst : decide (9 < 10) = true := rfl
    simp only [List.size_toArray, List.length_cons, List.length_nil, Nat.zero_add, Nat.reduceAdd, hst, if_true] at hG
    have ce := b9.cell (a := ⟨QX, 0, none⟩) q hne
    have cf := (World.frozen?_of_block (w := w.drew) (w' := wz) (a := ⟨QX, 0, none⟩) (b9.block QX lt hne)).trans fq
    have ne3 : some QX ≠ (Value.slice A3 (n + 1) c3).ownBlock := by
      rcases r7 with e | ⟨y, e, hy⟩ <;> rw [e]
      · exact hne
      · intro e2; injection e2 with e2; omega
    refine hG ?_
    clear hG
    go_wp2_with fail
    go_end0
    refine ⟨rfl, .slice A3 (n + 1) c3, ⟨World.cell?_setCell_same _ _ _ ce, by simpa using cf, ?_, by simp [hl], ne3, ?_⟩, r7, (T0.grown b9 (Row.refl _ _)).setx 0 _⟩
    · have := o7.kept (row := some QX) (grown_set (j := 0) (World.grownBy.refl wz _) (.slice A3 (n + 1) c3)) (.inr (Ne.symm ne3))
      simpa [Du.enc] using this
    · have := b9.size
      simp
      omega
end Go.Proofs.Ytimhdkgllgdamaa
