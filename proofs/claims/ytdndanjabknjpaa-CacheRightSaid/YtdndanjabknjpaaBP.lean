/- What CacheRight's walk uses: All, twice. -/
import Derived.Test.YtdndanjabknjpaaBN
import Derived.Test.YtdndanjabknjpaaAB
namespace Go.Proofs.Ytdndanjabknjpaa
open Go.RowKit Go.Lib

set_option linter.unusedVariables false
attribute [local go_sem] Act.puts

theorem OwnC.push2 {w w3 : World} {base n m c : Nat} {V V' : Value} {B : Option Addr} {l : List Ln} {ls : List (List Ln)} {hs : List Hd} (h : OwnC w base V n ls hs) (hv : w.ownsRow base 32 4 (.slice B m c) m (l.flatMap Ln.enc)) (hm : l.length = m)
    (hap : ∀ j, j < n → Apart hs[j]!.val (.slice B m c)) (ownN : w3.ownsRow base 40 1 V' (n + 1) (hs.flatMap Hd.enc ++ [.slice B m c])) (hg : w.grownBy w3 V.ownBlock) : OwnC w3 base V' (n + 1) (ls ++ [l]) (hs ++ [⟨B, m, c⟩]) := by
  have hn := h.num
  have hl := h.len
  refine ⟨?_, by simp [hn], by simp [hl], fun j hj => ?_, fun i j hij hj => ?_⟩
  · have e : (hs ++ [(⟨B, m, c⟩ : Hd)]).flatMap Hd.enc = hs.flatMap Hd.enc ++ [.slice B m c] := by simp [Hd.enc]
    rw [e]; exact ownN
  · rw [appGet, appGet, hl, hn]
    by_cases h1 : j < n
    · rw [if_pos h1, if_pos h1]
      obtain ⟨a1, a2⟩ := h.inner j h1
      exact ⟨a1, a2.kept hg (own_two a2 h.outer (by decide))⟩
    · obtain rfl : j = n := by omega
      rw [if_neg h1, if_neg h1, if_pos rfl, if_pos rfl]
      exact ⟨hm.symm, hv.kept hg (own_two hv h.outer (by decide))⟩
  · rw [appGet, appGet, hl]
    by_cases h1 : j < n
    · rw [if_pos h1, if_pos (by omega)]
      exact h.apart i j hij h1
    · obtain rfl : j = n := by omega
      rw [if_neg h1, if_pos rfl, if_pos hij]
      exact hap i hij
theorem OwnC.keepRow {w w' : World} {base n : Nat} {V u : Value} {ls : List (List Ln)} {hs : List Hd} (h : OwnC w base V n ls hs) (hg : w.grownBy w' u.ownBlock) (hne : ∀ g, u.ownBlock = some g → V.ownBlock ≠ some g ∧ ∀ j, j < n → hs[j]!.val.ownBlock ≠ some g) : OwnC w' base V n ls hs := by
  refine ⟨h.outer.kept hg ?_, h.num, h.len, fun j hj => ⟨(h.inner j hj).1, (h.inner j hj).2.kept hg ?_⟩, h.apart⟩
  · cases hu : u.ownBlock with
    | none => cases hV : V.ownBlock with
      | none => exact .inl rfl
      | some g => exact .inr (by simp)
    | some g => exact .inr (fun e => (hne g hu).1 e)
  · cases hu : u.ownBlock with
    | none => cases hV : hs[j]!.val.ownBlock with
      | none => exact .inl rfl
      | some g => exact .inr (by simp)
    | some g => exact .inr (fun e => (hne g hu).2 j hj e)
structure CcR (w0 : World) (base MX CX bb off n c i m c2 d : Nat) (B B2 : Option Addr) (x : Ca) (l : List Ln) (hs2 : List Hd) (L : Nat → Bool) (u37 u38 u39 u40 u41 u42 u43 u44 u45 u46 u47 u48 : Value) (wz : World) : Prop where
  b : Below base w0 wz
  s0 : L 0 = true → u37 = .pointer (some ⟨MX, 3, none⟩)
  s1 : L 1 = true → u38 = .slice B i d
  s2 : L 2 = true → L 8 = false → wz.ownsRow w0.heap.size 32 4 u39 0 []
  s3 : L 3 = true → u40 = .pointer (some ⟨CX, 3, none⟩)
  s4 : L 4 = true → u41 = .slice (some ⟨bb, off, none⟩) n c
  s5 : L 5 = true → u42 = .int .i64 (i : Int)
  s6 : L 6 = true → u43 = .pointer (some ⟨bb, off + i, none⟩)
  s7 : L 7 = true → u44 = .slice B2 m c2
  s8 : L 8 = true → L 10 = false → ∃ B3 c3, u45 = .slice B3 m c3 ∧ wz.ownsRow w0.heap.size 32 4 (.slice B3 m c3) m (l.flatMap Ln.enc)
  s9 : L 9 = true → L 10 = false → ∃ X, u46 = .slice (some ⟨X, 0, none⟩) 1 1 ∧ Lay wz X [u45]
  s10 : L 10 = true → ∃ B' c' hs3, u47 = .slice B' (i + 1) c' ∧ OwnC wz base (.slice B' (i + 1) c') (i + 1) (x.lines.take (i + 1)) hs3
  s11 : L 11 = true → u48 = .pointer (some ⟨MX, 3, none⟩)
  o0 : L 10 = false → OwnC wz base (.slice B i d) i (x.lines.take i) hs2
  b0 : L 10 = false → Below w0.heap.size w0 wz
def CcRPhi (w0 : World) (base MX CX bb off n c i m c2 d : Nat) (B B2 : Option Addr) (x : Ca) (l : List Ln) (hs2 : List Hd) (L : Nat → Bool) (vs : List Value) (w' : World) : Prop :=
  ∃ u37 u38 u39 u40 u41 u42 u43 u44 u45 u46 u47 u48 wz, vs = [u37, u38, u39, u40, u41, u42, u43, u44, u45, u46, u47, u48] ∧ CcR w0 base MX CX bb off n c i m c2 d B B2 x l hs2 L u37 u38 u39 u40 u41 u42 u43 u44 u45 u46 u47 u48 wz ∧ w' = if L 12 = true then wz.setCell ⟨MX, 3, none⟩ u47 else wz
end Go.Proofs.Ytdndanjabknjpaa
namespace Go.Proofs.Ytdndanjabknjpaa
open Go.RowKit Go.Lib

set_option linter.unusedVariables false
attribute [local go_sem] Act.puts

def AllR (w : World) (x : Ca) (v : Value) : Prop :=
  ∃ B m d l, v = .slice B m d ∧ List.length l = m ∧ (rightC x = true → l.Perm x.lines.flatten ∧ l.Pairwise (fun a b => a.addr ≤ b.addr)) ∧ (rightC x = false → l = []) ∧ Sl 4 Ln.enc w B l
theorem AllR.below {w w' : World} {x : Ca} {v : Value} (h : AllR w x v) (hb : Below w.heap.size w w') : AllR w' x v := by
  obtain ⟨B, m, d, l, h1, h2, h3, h4, h5⟩ := h
  exact ⟨B, m, d, l, h1, h2, h3, h4, h5.below hb⟩
theorem nodup_inj {l : List Ln} (hnd : (l.map Ln.addr).Nodup) {y z : Ln} (hy : y ∈ l) (hz : z ∈ l) (e : y.addr = z.addr) : y = z := by
  obtain ⟨i, hi, rfl⟩ := List.getElem_of_mem hy
  obtain ⟨j, hj, rfl⟩ := List.getElem_of_mem hz
  have : i = j := by
    rcases Nat.lt_trichotomy i j with h | h | h
    · have := nodup_pair hnd h hj
      rw [getElem!_pos l j hj, getElem!_pos l i hi] at this
      exact absurd e.symm this
    · exact h
    · have := nodup_pair hnd h hi
      rw [getElem!_pos l j hj, getElem!_pos l i hi] at this
      exact absurd e this
  subst this
  rfl
theorem all_unique {x : Ca} {l p : List Ln} (h1 : rightC x = true → l.Perm x.lines.flatten ∧ l.Pairwise (fun a b => a.addr ≤ b.addr)) (h2 : rightC x = false → l = [])
    (h3 : rightC x = true → p.Perm x.lines.flatten ∧ p.Pairwise (fun a b => a.addr ≤ b.addr)) (h4 : rightC x = false → p = []) : l = p := by
  cases hr : rightC x with
  | false => rw [h2 hr, h4 hr]
  | true =>
    obtain ⟨a1, a2⟩ := h1 hr
    obtain ⟨b1, b2⟩ := h3 hr
    have hnd := (rightC_iff.1 hr).addrs
    refine List.Perm.eq_of_pairwise (le := fun a b : Ln => a.addr ≤ b.addr) (fun a b ha hb h5 h6 => ?_) a2 b2 (a1.trans b1.symm)
    exact nodup_inj hnd (a1.subset ha) (b1.subset hb) (by omega)
structure LaA (w0 : World) (CX MX LX KX n c d : Nat) (A B : Option Addr) (x : Ca) (ln : Ln) (ok : Bool) (L : Nat → Bool) (u61 u62 u63 u64 u65 u66 u67 u68 u69 u70 u71 u72 u73 u74 u75 u76 : Value) (wz : World) : Prop where
  b : Below w0.heap.size w0 wz
  s0 : L 0 = true → u61 = .agg #[.int .i64 ln.addr, .int .i64 ln.state, .int .u32 ln.val_, .int .i64 ln.used]
  s1 : L 1 = true → u62 = .agg #[.int .i64 ln.addr, .int .i64 ln.state, .int .u32 ln.val_, .int .i64 ln.used]
  s2 : L 2 = true → u63 = .bool false
  s3 : L 3 = true → u64 = .bool false
  s4 : L 4 = true → u65 = .bool ok
  s5 : L 5 = true → u66 = .bool ok
  s6 : L 6 = true → u67 = .bool false
  s7 : L 7 = true → u68 = .bool false
  s8 : L 8 = true → u69 = .bool false
  s9 : L 9 = true → u70 = .agg #[.int .i64 x.sets, .int .i64 x.ways, .int .i64 x.clock, .slice B n d]
  e10 : L 10 = true → AllR wz x u71
  s11 : L 11 = true → u72 = .agg #[.int .i64 x.sets, .int .i64 x.ways, .int .i64 x.clock, .slice A n c]
  e12 : L 12 = true → AllR wz x u73
  s13 : L 13 = true → u74 = .bool true
  s14 : L 14 = true → u75 = .bool false
  s15 : L 15 = true → u76 = .bool false
def LaAPhi (w0 : World) (CX MX LX KX n c d : Nat) (A B : Option Addr) (x : Ca) (ln : Ln) (ok : Bool) (L : Nat → Bool) (vs : List Value) (w' : World) : Prop :=
  ∃ u61 u62 u63 u64 u65 u66 u67 u68 u69 u70 u71 u72 u73 u74 u75 u76 wz, vs = [u61, u62, u63, u64, u65, u66, u67, u68, u69, u70, u71, u72, u73, u74, u75, u76] ∧ LaA w0 CX MX LX KX n c d A B x ln ok L u61 u62 u63 u64 u65 u66 u67 u68 u69 u70 u71 u72 u73 u74 u75 u76 wz ∧ wz = w'
end Go.Proofs.Ytdndanjabknjpaa
