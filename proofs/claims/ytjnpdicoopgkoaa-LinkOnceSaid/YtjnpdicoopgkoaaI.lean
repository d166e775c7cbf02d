/- Walks of link: Get, the ways that change nothing. -/
import Derived.Test.YtjnpdicoopgkoaaH
namespace Go.Proofs.Ytjnpdicoopgkoaa
open Go.RowKit Go.Lib
set_option linter.unusedVariables false
attribute [local go_sem] Act.puts

def laid3 (p u v x : Value) (w : World) : World := match p with | .pointer (some a) => ((w.setCell a u).setCell ⟨a.block, 1, none⟩ v).setCell ⟨a.block, 2, none⟩ x | _ => w
/-- What a copy of a getter in a variable of the call's own is. -/
structure Copied3 (w0 wz : World) (X : Nat) (g : Gtr) (n m : Nat) (A : Option Addr) (c : Nat) (B : Option Addr) (d : Nat) : Prop where
  x0 : wz.cell? ⟨X, 0, none⟩ = some (.int .i64 g.next)
  x1 : wz.cell? ⟨X, 1, none⟩ = some (.slice A n c)
  x2 : wz.cell? ⟨X, 2, none⟩ = some (.slice B m d)
  f0 : wz.frozen? ⟨X, 0, none⟩ = false
  f1 : wz.frozen? ⟨X, 1, none⟩ = false
  f2 : wz.frozen? ⟨X, 2, none⟩ = false
  lo : w0.heap.size ≤ X
  hi : X < wz.heap.size
  own : wz.ownsRow w0.heap.size 34 2 (.slice A n c) n (g.early.flatMap Pce.enc)
  ownC : wz.ownsRow w0.heap.size 32 1 (.slice B m d) m (g.came.flatMap Wrd.enc)
  ne : (Value.slice A n c).ownBlock ≠ some X
  neC : (Value.slice B m d).ownBlock ≠ some X
  b : Below w0.heap.size w0 wz
structure GetR (w0 : World) (H : Nat) (A : Option Addr) (n c : Nat) (B : Option Addr) (m d : Nat) (g : Gtr) (L : Nat → Bool) (u10 u11 u12 u13 u14 u15 u16 u17 u18 u7 : Value) (wz : World) : Prop where
  b : Below w0.heap.size w0 wz
  s0 : L 0 = true → u10 = .pointer (some ⟨H, 0, none⟩)
  s1 : L 1 = true → u11 = .int .i64 g.next
  s2 : L 2 = true → u12 = .pointer (some ⟨H, 1, none⟩)
  s3 : L 3 = true → u13 = .slice A n c
  s4 : L 4 = true → wz.ownsRow w0.heap.size 34 2 u14 n (g.early.flatMap Pce.enc)
  s5 : L 5 = true → u15 = .pointer (some ⟨H, 2, none⟩)
  s6 : L 6 = true → u16 = .slice B m d
  s7 : L 7 = true → wz.ownsRow w0.heap.size 32 1 u17 m (g.came.flatMap Wrd.enc)
  s8 : L 8 = true → u18 = .agg #[.int .i64 g.next, u14, u17]
  x9 : L 9 = true → ∃ X, u7 = .pointer (some ⟨X, 0, none⟩) ∧ w0.heap.size ≤ X ∧ X < wz.heap.size ∧ wz.heap[X]? = some (.cells #[.int .i64 0, .slice none 0 0, .slice none 0 0] 29 (0, 0))
  d4 : L 9 = true → L 4 = true → ∀ X, u7 = .pointer (some ⟨X, 0, none⟩) → u14.ownBlock ≠ some X
  d7 : L 9 = true → L 7 = true → ∀ X, u7 = .pointer (some ⟨X, 0, none⟩) → u17.ownBlock ≠ some X
def GetRPhi (w0 : World) (H : Nat) (A : Option Addr) (n c : Nat) (B : Option Addr) (m d : Nat) (g : Gtr) (L : Nat → Bool) (vs : List Value) (w' : World) : Prop :=
  ∃ u10 u11 u12 u13 u14 u15 u16 u17 u18 u7 wz, vs = [u10, u11, u12, u13, u14, u15, u16, u17, u18, u7] ∧ GetR w0 H A n c B m d g L u10 u11 u12 u13 u14 u15 u16 u17 u18 u7 wz ∧ w' = if L 10 = true then laid3 u7 (.int .i64 g.next) u14 u17 wz else wz

theorem cells3 {w : World} {X : Nat} {a b c : Value} {T : TypeId} (h : w.heap[X]? = some (.cells #[a, b, c] T (0, 0))) :
    w.cell? ⟨X, 0, none⟩ = some a ∧ w.cell? ⟨X, 1, none⟩ = some b ∧ w.cell? ⟨X, 2, none⟩ = some c ∧ w.frozen? ⟨X, 0, none⟩ = false ∧ w.frozen? ⟨X, 1, none⟩ = false ∧ w.frozen? ⟨X, 2, none⟩ = false :=
  ⟨cell_of_row _ X 0 _ T (0, 0) h, cell_of_row _ X 1 _ T (0, 0) h, cell_of_row _ X 2 _ T (0, 0) h, by simp [World.frozen?, h], by simp [World.frozen?, h], by simp [World.frozen?, h]⟩
theorem copied3 {w0 wz : World} {X : Nat} {g : Gtr} {n m : Nat} {A : Option Addr} {c : Nat} {B : Option Addr} {d : Nat} {a0 a1 a2 : Value}
    (y0 : wz.cell? ⟨X, 0, none⟩ = some a0) (y1 : wz.cell? ⟨X, 1, none⟩ = some a1) (y2 : wz.cell? ⟨X, 2, none⟩ = some a2)
    (z0 : wz.frozen? ⟨X, 0, none⟩ = false) (z1 : wz.frozen? ⟨X, 1, none⟩ = false) (z2 : wz.frozen? ⟨X, 2, none⟩ = false)
    (lo : w0.heap.size ≤ X) (hi : X < wz.heap.size) (o4 : wz.ownsRow w0.heap.size 34 2 (.slice A n c) n (g.early.flatMap Pce.enc)) (o7 : wz.ownsRow w0.heap.size 32 1 (.slice B m d) m (g.came.flatMap Wrd.enc))
    (ne : (Value.slice A n c).ownBlock ≠ some X) (neC : (Value.slice B m d).ownBlock ≠ some X) (b : Below w0.heap.size w0 wz) :
    Copied3 w0 (((wz.setCell ⟨X, 0, none⟩ (.int .i64 g.next)).setCell ⟨X, 1, none⟩ (.slice A n c)).setCell ⟨X, 2, none⟩ (.slice B m d)) X g n m A c B d :=
  ⟨by go_simp, by go_simp, by go_simp, by go_simp, by go_simp, by go_simp, lo, by simpa using hi,
   ownsRow_setCell_other (a := ⟨X, 2, none⟩) (ownsRow_setCell_other (a := ⟨X, 1, none⟩) (ownsRow_setCell_other (a := ⟨X, 0, none⟩) o4 ne _) ne _) ne _,
   ownsRow_setCell_other (a := ⟨X, 2, none⟩) (ownsRow_setCell_other (a := ⟨X, 1, none⟩) (ownsRow_setCell_other (a := ⟨X, 0, none⟩) o7 neC _) neC _) neC _, ne, neC, ((b.setCell lo _).setCell lo _).setCell lo _⟩

/-- A getter that a call hands back, of memory that the call made; a number; an error. -/
def GaveG (w : World) (g : Gtr) (nx k : Int) (e : Ending) (w' : World) : Prop :=
  ∃ A n c B m d, e = .returned (.tuple #[.agg #[.int .i64 g.next, .slice A n c, .slice B m d], .int .i64 nx, .int .i64 k]) ∧ g.early.length = n ∧ g.came.length = m ∧ Sl 2 Pce.enc w' A g.early ∧ Sl 1 Wrd.enc w' B g.came ∧ Below w.heap.size w w' ∧ Fresh w A ∧ Fresh w B
theorem gaveG_drew {w w' : World} {g : Gtr} {nx k : Int} {e : Ending} (h : GaveG w g nx k e w') : GaveG w g nx k e w'.drew := by
  obtain ⟨A, n, c, B, m, d, h1, h2, h3, h4, h5, h6, h7⟩ := h
  exact ⟨A, n, c, B, m, d, h1, h2, h3, ⟨h4.big, h4.cell⟩, ⟨h5.big, h5.cell⟩, h6.drew, h7⟩
theorem Sl.set3 {α : Type} [Inhabited α] {k : Nat} {enc : α → List Value} {w : World} {A : Option Addr} {xs : List α} {X : Nat} (h : Sl k enc w A xs) (hf : ∀ a, A = some a → a.block ≠ X) (u v x : Value) :
    Sl k enc (((w.setCell ⟨X, 0, none⟩ u).setCell ⟨X, 1, none⟩ v).setCell ⟨X, 2, none⟩ x) A xs :=
  ((h.setFar (q := ⟨X, 0, none⟩) (fun _ => hf) u).setFar (q := ⟨X, 1, none⟩) (fun _ => hf) v).setFar (q := ⟨X, 2, none⟩) (fun _ => hf) x
theorem gaveG_ret {w w' : World} {n c m d : Nat} {A B : Option Addr} {g : Gtr} {nx k : Int} (hn : g.early.length = n) (hm : g.came.length = m) (hE : Sl 2 Pce.enc w' A g.early) (hC : Sl 1 Wrd.enc w' B g.came)
    (fA : ∀ a, A = some a → w.heap.size + 3 ≤ a.block) (fB : ∀ a, B = some a → w.heap.size + 3 ≤ a.block) (b : Below w.heap.size w w') :
    GaveG w g nx k (.returned (.tuple #[.agg #[.int .i64 g.next, .slice A n c, .slice B m d], .int .i64 nx, .int .i64 k]))
      ((((w'.setCell ⟨w.heap.size + 1 + 1, 0, none⟩ (.int .i64 g.next)).setCell ⟨w.heap.size + 1 + 1, 1, none⟩ (.slice A n c)).setCell ⟨w.heap.size + 1 + 1, 2, none⟩ (.slice B m d)).drew) := by
  have h1 : w.heap.size ≤ w.heap.size + 1 + 1 := by omega
  have b2 := ((b.setCell (p := ⟨w.heap.size + 1 + 1, 0, none⟩) h1 (.int .i64 g.next)).setCell (p := ⟨w.heap.size + 1 + 1, 1, none⟩) h1 (.slice A n c)).setCell (p := ⟨w.heap.size + 1 + 1, 2, none⟩) h1 (.slice B m d)
  exact gaveG_drew ⟨A, n, c, B, m, d, rfl, hn, hm, hE.set3 (fun a e => by have := fA a e; omega) _ _ _, hC.set3 (fun a e => by have := fB a e; omega) _ _ _, b2, fun a e => by have := fA a e; omega, fun a e => by have := fB a e; omega⟩
def runG : Int → List Pce → List Wrd → Gtr
  | n, [], c => ⟨n, [], c⟩
  | n, x :: r, c => if x.num = n ∧ n < 1099511627776 then runG (n + 1) r (c ++ [⟨x.val⟩]) else ⟨n, x :: r, c⟩
def posG (l : List Pce) (t : Int) : Nat := l.findIdx fun x => decide (t ≤ x.num)
def insG (l : List Pce) (p : Pce) : List Pce := l.take (posG l p.num) ++ p :: l.drop (posG l p.num)
def thereG (l : List Pce) (t : Int) : Bool := decide (posG l t < l.length ∧ l[posG l t]!.num = t)
def getG (g : Gtr) (p : Pce) : Gtr × Int :=
  if gRight g = false ∨ p.num < 0 ∨ g.next = 1099511627776 then (g, 1)
  else if p.num < g.next ∨ g.next + 16 ≤ p.num ∨ thereG g.early p.num = true then (g, 0)
  else (runG g.next (insG g.early p) g.came, 0)
theorem stands_pos {l : List Pce} {t : Int} {i : Nat} (h : Stands l t i) : i = posG l t := by
  unfold posG
  rcases Nat.lt_trichotomy i (l.findIdx fun x => decide (t ≤ x.num)) with hlt | he | hgt
  · have h1 := List.not_of_lt_findIdx hlt
    have h2 : l.findIdx (fun x => decide (t ≤ x.num)) ≤ l.length := List.findIdx_le_length
    have h3 := h.high i (Nat.le_refl _) (by omega)
    rw [getElem!_pos l i (by omega)] at h3
    simp at h1
    omega
  · exact he
  · have hle := h.le
    have h1 := List.findIdx_getElem (p := fun x => decide (t ≤ x.num)) (xs := l) (w := by omega)
    have h3 := h.low _ hgt
    rw [getElem!_pos l _ (by omega)] at h3
    simp at h1
    omega

set_option maxHeartbeats 16000000 in
theorem get_bad (A B : Option Addr) (c d n m : Nat) (g : Gtr) (p : Pce) (w : World) (hs : Sl 2 Pce.enc w A g.early) (hc : Sl 1 Wrd.enc w B g.came) (hn : g.early.length = n) (hm : g.came.length = m) (hn1 : n ≤ 1000000) (hm1 : m ≤ 1000000)
    (hr : gRight g = false) :
    Calls Try.prog 7 #[.agg #[.int .i64 g.next, .slice A n c, .slice B m d], .agg #[.int .i64 p.num, .int .u32 p.val]] w (GaveG w g g.next 1) := by
  have b0 : Below w.heap.size w (((w.alloc (.cells #[.int .i64 g.next, .slice A n c, .slice B m d] 29)).alloc (.cells #[.int .i64 p.num, .int .u32 p.val] 34)).alloc (.cells #[.int .i64 0, .slice none 0 0, .slice none 0 0] 29)).drew := ((((Below.refl _ _).alloc (Nat.le_refl _) _).alloc (by simp) _).alloc (by simp <;> omega) _).drew
  have e0 : (((w.alloc (.cells #[.int .i64 g.next, .slice A n c, .slice B m d] 29)).alloc (.cells #[.int .i64 p.num, .int .u32 p.val] 34)).alloc (.cells #[.int .i64 0, .slice none 0 0, .slice none 0 0] 29)).drew.cell? ⟨w.heap.size, 0, none⟩ = some (.int .i64 g.next) := by go_simp
  have e1 : (((w.alloc (.cells #[.int .i64 g.next, .slice A n c, .slice B m d] 29)).alloc (.cells #[.int .i64 p.num, .int .u32 p.val] 34)).alloc (.cells #[.int .i64 0, .slice none 0 0, .slice none 0 0] 29)).drew.cell? ⟨w.heap.size, 1, none⟩ = some (.slice A n c) := by go_simp
  have e2 : (((w.alloc (.cells #[.int .i64 g.next, .slice A n c, .slice B m d] 29)).alloc (.cells #[.int .i64 p.num, .int .u32 p.val] 34)).alloc (.cells #[.int .i64 0, .slice none 0 0, .slice none 0 0] 29)).drew.cell? ⟨w.heap.size, 2, none⟩ = some (.slice B m d) := by go_simp
  have p0 : (((w.alloc (.cells #[.int .i64 g.next, .slice A n c, .slice B m d] 29)).alloc (.cells #[.int .i64 p.num, .int .u32 p.val] 34)).alloc (.cells #[.int .i64 0, .slice none 0 0, .slice none 0 0] 29)).drew.cell? ⟨w.heap.size + 1, 0, none⟩ = some (.int .i64 p.num) := by go_simp
  have p1 : (((w.alloc (.cells #[.int .i64 g.next, .slice A n c, .slice B m d] 29)).alloc (.cells #[.int .i64 p.num, .int .u32 p.val] 34)).alloc (.cells #[.int .i64 0, .slice none 0 0, .slice none 0 0] 29)).drew.cell? ⟨w.heap.size + 1, 1, none⟩ = some (.int .u32 p.val) := by go_simp
  have r0 : (((w.alloc (.cells #[.int .i64 g.next, .slice A n c, .slice B m d] 29)).alloc (.cells #[.int .i64 p.num, .int .u32 p.val] 34)).alloc (.cells #[.int .i64 0, .slice none 0 0, .slice none 0 0] 29)).drew.cell? ⟨w.heap.size + 1 + 1, 0, none⟩ = some (.int .i64 0) := by go_simp
  have r1 : (((w.alloc (.cells #[.int .i64 g.next, .slice A n c, .slice B m d] 29)).alloc (.cells #[.int .i64 p.num, .int .u32 p.val] 34)).alloc (.cells #[.int .i64 0, .slice none 0 0, .slice none 0 0] 29)).drew.cell? ⟨w.heap.size + 1 + 1, 1, none⟩ = some (.slice none 0 0) := by go_simp
  have r2 : (((w.alloc (.cells #[.int .i64 g.next, .slice A n c, .slice B m d] 29)).alloc (.cells #[.int .i64 p.num, .int .u32 p.val] 34)).alloc (.cells #[.int .i64 0, .slice none 0 0, .slice none 0 0] 29)).drew.cell? ⟨w.heap.size + 1 + 1, 2, none⟩ = some (.slice none 0 0) := by go_simp
  have fr0 : (((w.alloc (.cells #[.int .i64 g.next, .slice A n c, .slice B m d] 29)).alloc (.cells #[.int .i64 p.num, .int .u32 p.val] 34)).alloc (.cells #[.int .i64 0, .slice none 0 0, .slice none 0 0] 29)).drew.frozen? ⟨w.heap.size + 1 + 1, 0, none⟩ = false := by go_simp
  have fr1 : (((w.alloc (.cells #[.int .i64 g.next, .slice A n c, .slice B m d] 29)).alloc (.cells #[.int .i64 p.num, .int .u32 p.val] 34)).alloc (.cells #[.int .i64 0, .slice none 0 0, .slice none 0 0] 29)).drew.frozen? ⟨w.heap.size + 1 + 1, 1, none⟩ = false := by go_simp
  have fr2 : (((w.alloc (.cells #[.int .i64 g.next, .slice A n c, .slice B m d] 29)).alloc (.cells #[.int .i64 p.num, .int .u32 p.val] 34)).alloc (.cells #[.int .i64 0, .slice none 0 0, .slice none 0 0] 29)).drew.frozen? ⟨w.heap.size + 1 + 1, 2, none⟩ = false := by go_simp
  have ltB : w.heap.size < (((w.alloc (.cells #[.int .i64 g.next, .slice A n c, .slice B m d] 29)).alloc (.cells #[.int .i64 p.num, .int .u32 p.val] 34)).alloc (.cells #[.int .i64 0, .slice none 0 0, .slice none 0 0] 29)).drew.heap.size := by simp <;> omega
  have ltP : w.heap.size + 1 < (((w.alloc (.cells #[.int .i64 g.next, .slice A n c, .slice B m d] 29)).alloc (.cells #[.int .i64 p.num, .int .u32 p.val] 34)).alloc (.cells #[.int .i64 0, .slice none 0 0, .slice none 0 0] 29)).drew.heap.size := by simp <;> omega
  have ltR : w.heap.size + 1 + 1 < (((w.alloc (.cells #[.int .i64 g.next, .slice A n c, .slice B m d] 29)).alloc (.cells #[.int .i64 p.num, .int .u32 p.val] 34)).alloc (.cells #[.int .i64 0, .slice none 0 0, .slice none 0 0] 29)).drew.heap.size := by simp <;> omega
  have cC := fun w1 (hb : Below (((w.alloc (.cells #[.int .i64 g.next, .slice A n c, .slice B m d] 29)).alloc (.cells #[.int .i64 p.num, .int .u32 p.val] 34)).alloc (.cells #[.int .i64 0, .slice none 0 0, .slice none 0 0] 29)).drew.heap.size (((w.alloc (.cells #[.int .i64 g.next, .slice A n c, .slice B m d] 29)).alloc (.cells #[.int .i64 p.num, .int .u32 p.val] 34)).alloc (.cells #[.int .i64 0, .slice none 0 0, .slice none 0 0] 29)).drew w1) => cloneP_any A c n g.early w1 (hs.below (b0.trans (hb.mono b0.size))) hn hn1
  have cW := fun w1 (hb : Below (((w.alloc (.cells #[.int .i64 g.next, .slice A n c, .slice B m d] 29)).alloc (.cells #[.int .i64 p.num, .int .u32 p.val] 34)).alloc (.cells #[.int .i64 0, .slice none 0 0, .slice none 0 0] 29)).drew.heap.size (((w.alloc (.cells #[.int .i64 g.next, .slice A n c, .slice B m d] 29)).alloc (.cells #[.int .i64 p.num, .int .u32 p.val] 34)).alloc (.cells #[.int .i64 0, .slice none 0 0, .slice none 0 0] 29)).drew w1) => cloneW_any B d m g.came w1 (hc.below (b0.trans (hb.mono b0.size))) hm hm1
  have cR := fun w1 (hb : Below w.heap.size w w1) => gRight_any A B c d n m g w1 (hs.below hb) hn
  rw [hr] at cR
  clear hr
  have HN := Lib.hid hn
  have HM := Lib.hid hm
  clear hs hc hn hm
  go_enter Try.func7, Try.ntmps7
  go_wp2_with fail
  generalize (((w.alloc (.cells #[.int .i64 g.next, .slice A n c, .slice B m d] 29)).alloc (.cells #[.int .i64 p.num, .int .u32 p.val] 34)).alloc (.cells #[.int .i64 0, .slice none 0 0, .slice none 0 0] 29)) = W0 at *
  refine wp_region_rg (by kernel_rfl) (by kernel_rfl) [10, 11, 12, 13, 14, 15, 16, 17, 18, 7] (GetRPhi W0.drew w.heap.size A n c B m d g) ?h0 ⟨?q0, ?q1, ?q2, ?q3, ?q4, ?q5, ?q6, ?q7, ?q8, ?q9, ?q10, trivial⟩ ?hend
  case h0 => exact ⟨_, _, _, _, _, _, _, _, _, _, _, rfl, ⟨Below.refl _ _, (fun h => by cases h), (fun h => by cases h), (fun h => by cases h), (fun h => by cases h), (fun h => by cases h), (fun h => by cases h), (fun h => by cases h), (fun h => by cases h), (fun h => by cases h), (fun h => by cases h), (fun h => by cases h), (fun h => by cases h)⟩, rfl⟩
  case q0 =>
    rintro L vs w' K ⟨u10, u11, u12, u13, u14, u15, u16, u17, u18, u7, wz, rfl, φ, rfl⟩ hL hpre hcl hK G hG
    simp [Region.binds, closedFrom] at hpre hcl
    have hst : L 10 = false := by
      cases h : L 10 with
      | false => rfl
      | true => simp [h, hL] at hcl
    simp only [hst, Bool.false_eq_true, if_false] at hK hG
    have hk := hK [(.pointer (some ⟨w.heap.size, 0, none⟩)), u11, u12, u13, u14, u15, u16, u17, u18, u7] wz ⟨_, _, _, _, _, _, _, _, _, _, wz, rfl,
      { b := φ.b,
        s0 := fun _ => rfl,
        s1 := fun h0 => φ.s1 (by simpa using h0),
        s2 := fun h0 => φ.s2 (by simpa using h0),
        s3 := fun h0 => φ.s3 (by simpa using h0),
        s4 := fun h0 => φ.s4 (by simpa using h0),
        s5 := fun h0 => φ.s5 (by simpa using h0),
        s6 := fun h0 => φ.s6 (by simpa using h0),
        s7 := fun h0 => φ.s7 (by simpa using h0),
        s8 := fun h0 => φ.s8 (by simpa using h0),
        x9 := fun h0 => φ.x9 (by simpa using h0),
        d4 := fun h0 h1 => φ.d4 (by simpa using h0) (by simpa using h1),
        d7 := fun h0 h1 => φ.d7 (by simpa using h0) (by simpa using h1) }, by simp [hst]⟩
    refine hG ?_
    clear hK φ hG
    revert hk
    go_simp
    first | done | exact fun h => h
  case q1 =>
    rintro L vs w' K ⟨u10, u11, u12, u13, u14, u15, u16, u17, u18, u7, wz, rfl, φ, rfl⟩ hL hpre hcl hK G hG
    simp [Region.binds, closedFrom] at hpre hcl
    have hst : L 10 = false := by
      cases h : L 10 with
      | false => rfl
      | true => simp [h, hL] at hcl
    simp only [hst, Bool.false_eq_true, if_false] at hK hG
    obtain rfl := φ.s0 (by simp [hpre])
    have ce := (φ.b.cell (p := ⟨w.heap.size, 0, none⟩) ltB).trans e0
    have hk := hK [(.pointer (some ⟨w.heap.size, 0, none⟩)), (.int .i64 g.next), u12, u13, u14, u15, u16, u17, u18, u7] wz ⟨_, _, _, _, _, _, _, _, _, _, wz, rfl,
      { b := φ.b,
        s0 := fun h0 => φ.s0 (by simpa using h0),
        s1 := fun _ => rfl,
        s2 := fun h0 => φ.s2 (by simpa using h0),
        s3 := fun h0 => φ.s3 (by simpa using h0),
        s4 := fun h0 => φ.s4 (by simpa using h0),
        s5 := fun h0 => φ.s5 (by simpa using h0),
        s6 := fun h0 => φ.s6 (by simpa using h0),
        s7 := fun h0 => φ.s7 (by simpa using h0),
        s8 := fun h0 => φ.s8 (by simpa using h0),
        x9 := fun h0 => φ.x9 (by simpa using h0),
        d4 := fun h0 h1 => φ.d4 (by simpa using h0) (by simpa using h1),
        d7 := fun h0 h1 => φ.d7 (by simpa using h0) (by simpa using h1) }, by simp [hst]⟩
    refine hG ?_
    clear hK φ hG
    revert hk
    go_simp
    first | done | exact fun h => h
  case q2 =>
    rintro L vs w' K ⟨u10, u11, u12, u13, u14, u15, u16, u17, u18, u7, wz, rfl, φ, rfl⟩ hL hpre hcl hK G hG
    simp [Region.binds, closedFrom] at hpre hcl
    have hst : L 10 = false := by
      cases h : L 10 with
      | false => rfl
      | true => simp [h, hL] at hcl
    simp only [hst, Bool.false_eq_true, if_false] at hK hG
    have hk := hK [u10, u11, (.pointer (some ⟨w.heap.size, 1, none⟩)), u13, u14, u15, u16, u17, u18, u7] wz ⟨_, _, _, _, _, _, _, _, _, _, wz, rfl,
      { b := φ.b,
        s0 := fun h0 => φ.s0 (by simpa using h0),
        s1 := fun h0 => φ.s1 (by simpa using h0),
        s2 := fun _ => rfl,
        s3 := fun h0 => φ.s3 (by simpa using h0),
        s4 := fun h0 => φ.s4 (by simpa using h0),
        s5 := fun h0 => φ.s5 (by simpa using h0),
        s6 := fun h0 => φ.s6 (by simpa using h0),
        s7 := fun h0 => φ.s7 (by simpa using h0),
        s8 := fun h0 => φ.s8 (by simpa using h0),
        x9 := fun h0 => φ.x9 (by simpa using h0),
        d4 := fun h0 h1 => φ.d4 (by simpa using h0) (by simpa using h1),
        d7 := fun h0 h1 => φ.d7 (by simpa using h0) (by simpa using h1) }, by simp [hst]⟩
    refine hG ?_
    clear hK φ hG
    revert hk
    go_simp
    first | done | exact fun h => h
  case q3 =>
    rintro L vs w' K ⟨u10, u11, u12, u13, u14, u15, u16, u17, u18, u7, wz, rfl, φ, rfl⟩ hL hpre hcl hK G hG
    simp [Region.binds, closedFrom] at hpre hcl
    have hst : L 10 = false := by
      cases h : L 10 with
      | false => rfl
      | true => simp [h, hL] at hcl
    simp only [hst, Bool.false_eq_true, if_false] at hK hG
    obtain rfl := φ.s2 (by simp [hpre])
    have ce := (φ.b.cell (p := ⟨w.heap.size, 1, none⟩) ltB).trans e1
    have hk := hK [u10, u11, (.pointer (some ⟨w.heap.size, 1, none⟩)), (.slice A n c), u14, u15, u16, u17, u18, u7] wz ⟨_, _, _, _, _, _, _, _, _, _, wz, rfl,
      { b := φ.b,
        s0 := fun h0 => φ.s0 (by simpa using h0),
        s1 := fun h0 => φ.s1 (by simpa using h0),
        s2 := fun h0 => φ.s2 (by simpa using h0),
        s3 := fun _ => rfl,
        s4 := fun h0 => φ.s4 (by simpa using h0),
        s5 := fun h0 => φ.s5 (by simpa using h0),
        s6 := fun h0 => φ.s6 (by simpa using h0),
        s7 := fun h0 => φ.s7 (by simpa using h0),
        s8 := fun h0 => φ.s8 (by simpa using h0),
        x9 := fun h0 => φ.x9 (by simpa using h0),
        d4 := fun h0 h1 => φ.d4 (by simpa using h0) (by simpa using h1),
        d7 := fun h0 h1 => φ.d7 (by simpa using h0) (by simpa using h1) }, by simp [hst]⟩
    refine hG ?_
    clear hK φ hG
    revert hk
    go_simp
    first | done | exact fun h => h
  case q4 =>
    rintro L vs w' K ⟨u10, u11, u12, u13, u14, u15, u16, u17, u18, u7, wz, rfl, φ, rfl⟩ hL hpre hcl hK G hG
    simp [Region.binds, closedFrom] at hpre hcl
    have hst : L 10 = false := by
      cases h : L 10 with
      | false => rfl
      | true => simp [h, hL] at hcl
    simp only [hst, Bool.false_eq_true, if_false] at hK hG
    obtain rfl := φ.s3 (by simp [hpre])
    have L8 : L 8 = false := by
      cases h : L 8 with
      | false => rfl
      | true => simp [h, hL] at hcl
    refine hG (step_call wz rfl 13 #[.tmp 13] #[25] rfl #[.slice A n c] (by simp [Act.eval, Act.puts, Act.put]) (enters_of Try.func13 (by kernel_rfl) rfl) (cC wz φ.b) ?_)
    rintro e w9 ⟨v', rfl, ownN, hb9⟩
    refine ⟨v', rfl, ?_⟩
    have hk := hK [u10, u11, u12, (.slice A n c), (v'), u15, u16, u17, u18, u7] w9 ⟨_, _, _, _, _, _, _, _, _, _, w9, rfl,
      { b := φ.b.trans (hb9.mono φ.b.size),
        s0 := fun h0 => φ.s0 (by simpa using h0),
        s1 := fun h0 => φ.s1 (by simpa using h0),
        s2 := fun h0 => φ.s2 (by simpa using h0),
        s3 := fun h0 => φ.s3 (by simpa using h0),
        s4 := fun _ => own_weaken' ownN φ.b.size,
        s5 := fun h0 => φ.s5 (by simpa using h0),
        s6 := fun h0 => φ.s6 (by simpa using h0),
        s7 := fun h => own_below (φ.s7 (by simpa using h)) hb9,
        s8 := fun h => by simp [L8] at h,
        x9 := fun h => by
          obtain ⟨X, y1, y2, y3, y4⟩ := φ.x9 (by simpa using h)
          exact ⟨X, y1, y2, Nat.lt_of_lt_of_le y3 hb9.size, (hb9.block X y3).trans y4⟩,
        d4 := fun h _ X hX hE => by
          obtain ⟨X', y1, y2, y3, _⟩ := φ.x9 (by simpa using h)
          rw [hX] at y1
          obtain rfl : X = X' := by simpa using y1
          have := (ownN.lt _ hE).1
          omega,
        d7 := fun h0 h1 => φ.d7 (by simpa using h0) (by simpa using h1) }, by simp [hst]⟩
    clear hK φ hG
    revert hk
    go_simp
    first | done | exact fun h => h
  case q5 =>
    rintro L vs w' K ⟨u10, u11, u12, u13, u14, u15, u16, u17, u18, u7, wz, rfl, φ, rfl⟩ hL hpre hcl hK G hG
    simp [Region.binds, closedFrom] at hpre hcl
    have hst : L 10 = false := by
      cases h : L 10 with
      | false => rfl
      | true => simp [h, hL] at hcl
    simp only [hst, Bool.false_eq_true, if_false] at hK hG
    have hk := hK [u10, u11, u12, u13, u14, (.pointer (some ⟨w.heap.size, 2, none⟩)), u16, u17, u18, u7] wz ⟨_, _, _, _, _, _, _, _, _, _, wz, rfl,
      { b := φ.b,
        s0 := fun h0 => φ.s0 (by simpa using h0),
        s1 := fun h0 => φ.s1 (by simpa using h0),
        s2 := fun h0 => φ.s2 (by simpa using h0),
        s3 := fun h0 => φ.s3 (by simpa using h0),
        s4 := fun h0 => φ.s4 (by simpa using h0),
        s5 := fun _ => rfl,
        s6 := fun h0 => φ.s6 (by simpa using h0),
        s7 := fun h0 => φ.s7 (by simpa using h0),
        s8 := fun h0 => φ.s8 (by simpa using h0),
        x9 := fun h0 => φ.x9 (by simpa using h0),
        d4 := fun h0 h1 => φ.d4 (by simpa using h0) (by simpa using h1),
        d7 := fun h0 h1 => φ.d7 (by simpa using h0) (by simpa using h1) }, by simp [hst]⟩
    refine hG ?_
    clear hK φ hG
    revert hk
    go_simp
    first | done | exact fun h => h
  case q6 =>
    rintro L vs w' K ⟨u10, u11, u12, u13, u14, u15, u16, u17, u18, u7, wz, rfl, φ, rfl⟩ hL hpre hcl hK G hG
    simp [Region.binds, closedFrom] at hpre hcl
    have hst : L 10 = false := by
      cases h : L 10 with
      | false => rfl
      | true => simp [h, hL] at hcl
    simp only [hst, Bool.false_eq_true, if_false] at hK hG
    obtain rfl := φ.s5 (by simp [hpre])
    have ce := (φ.b.cell (p := ⟨w.heap.size, 2, none⟩) ltB).trans e2
    have hk := hK [u10, u11, u12, u13, u14, (.pointer (some ⟨w.heap.size, 2, none⟩)), (.slice B m d), u17, u18, u7] wz ⟨_, _, _, _, _, _, _, _, _, _, wz, rfl,
      { b := φ.b,
        s0 := fun h0 => φ.s0 (by simpa using h0),
        s1 := fun h0 => φ.s1 (by simpa using h0),
        s2 := fun h0 => φ.s2 (by simpa using h0),
        s3 := fun h0 => φ.s3 (by simpa using h0),
        s4 := fun h0 => φ.s4 (by simpa using h0),
        s5 := fun h0 => φ.s5 (by simpa using h0),
        s6 := fun _ => rfl,
        s7 := fun h0 => φ.s7 (by simpa using h0),
        s8 := fun h0 => φ.s8 (by simpa using h0),
        x9 := fun h0 => φ.x9 (by simpa using h0),
        d4 := fun h0 h1 => φ.d4 (by simpa using h0) (by simpa using h1),
        d7 := fun h0 h1 => φ.d7 (by simpa using h0) (by simpa using h1) }, by simp [hst]⟩
    refine hG ?_
    clear hK φ hG
    revert hk
    go_simp
    first | done | exact fun h => h
  case q7 =>
    rintro L vs w' K ⟨u10, u11, u12, u13, u14, u15, u16, u17, u18, u7, wz, rfl, φ, rfl⟩ hL hpre hcl hK G hG
    simp [Region.binds, closedFrom] at hpre hcl
    have hst : L 10 = false := by
      cases h : L 10 with
      | false => rfl
      | true => simp [h, hL] at hcl
    simp only [hst, Bool.false_eq_true, if_false] at hK hG
    obtain rfl := φ.s6 (by simp [hpre])
    have L8 : L 8 = false := by
      cases h : L 8 with
      | false => rfl
      | true => simp [h, hL] at hcl
    refine hG (step_call wz rfl 14 #[.tmp 16] #[22] rfl #[.slice B m d] (by simp [Act.eval, Act.puts, Act.put]) (enters_of Try.func14 (by kernel_rfl) rfl) (cW wz φ.b) ?_)
    rintro e w9 ⟨v', rfl, ownN, hb9⟩
    refine ⟨v', rfl, ?_⟩
    have hk := hK [u10, u11, u12, u13, u14, u15, (.slice B m d), (v'), u18, u7] w9 ⟨_, _, _, _, _, _, _, _, _, _, w9, rfl,
      { b := φ.b.trans (hb9.mono φ.b.size),
        s0 := fun h0 => φ.s0 (by simpa using h0),
        s1 := fun h0 => φ.s1 (by simpa using h0),
        s2 := fun h0 => φ.s2 (by simpa using h0),
        s3 := fun h0 => φ.s3 (by simpa using h0),
        s4 := fun h => own_below (φ.s4 (by simpa using h)) hb9,
        s5 := fun h0 => φ.s5 (by simpa using h0),
        s6 := fun h0 => φ.s6 (by simpa using h0),
        s7 := fun _ => own_weaken' ownN φ.b.size,
        s8 := fun h => by simp [L8] at h,
        x9 := fun h => by
          obtain ⟨X, y1, y2, y3, y4⟩ := φ.x9 (by simpa using h)
          exact ⟨X, y1, y2, Nat.lt_of_lt_of_le y3 hb9.size, (hb9.block X y3).trans y4⟩,
        d4 := fun h0 h1 => φ.d4 (by simpa using h0) (by simpa using h1),
        d7 := fun h _ X hX hE => by
          obtain ⟨X', y1, y2, y3, _⟩ := φ.x9 (by simpa using h)
          rw [hX] at y1
          obtain rfl : X = X' := by simpa using y1
          have := (ownN.lt _ hE).1
          omega }, by simp [hst]⟩
    clear hK φ hG
    revert hk
    go_simp
    first | done | exact fun h => h
  case q8 =>
    rintro L vs w' K ⟨u10, u11, u12, u13, u14, u15, u16, u17, u18, u7, wz, rfl, φ, rfl⟩ hL hpre hcl hK G hG
    simp [Region.binds, closedFrom] at hpre hcl
    have hst : L 10 = false := by
      cases h : L 10 with
      | false => rfl
      | true => simp [h, hL] at hcl
    simp only [hst, Bool.false_eq_true, if_false] at hK hG
    obtain rfl := φ.s1 (by simp [hpre])
    obtain ⟨A3, c3, rfl⟩ := own_shape (φ.s4 (by simp [hpre]))
    obtain ⟨B3, d3, rfl⟩ := own_shape (φ.s7 (by simp [hpre]))
    have hk := hK [u10, (.int .i64 g.next), u12, u13, (.slice A3 n c3), u15, u16, (.slice B3 m d3), (.agg #[.int .i64 g.next, .slice A3 n c3, .slice B3 m d3]), u7] wz ⟨_, _, _, _, _, _, _, _, _, _, wz, rfl,
      { b := φ.b,
        s0 := fun h0 => φ.s0 (by simpa using h0),
        s1 := fun h0 => φ.s1 (by simpa using h0),
        s2 := fun h0 => φ.s2 (by simpa using h0),
        s3 := fun h0 => φ.s3 (by simpa using h0),
        s4 := fun h0 => φ.s4 (by simpa using h0),
        s5 := fun h0 => φ.s5 (by simpa using h0),
        s6 := fun h0 => φ.s6 (by simpa using h0),
        s7 := fun h0 => φ.s7 (by simpa using h0),
        s8 := fun _ => rfl,
        x9 := fun h0 => φ.x9 (by simpa using h0),
        d4 := fun h0 h1 => φ.d4 (by simpa using h0) (by simpa using h1),
        d7 := fun h0 h1 => φ.d7 (by simpa using h0) (by simpa using h1) }, by simp [hst]⟩
    refine hG ?_
    clear hK φ hG
    revert hk
    go_simp
    first | done | exact fun h => h
  case q9 =>
    rintro L vs w' K ⟨u10, u11, u12, u13, u14, u15, u16, u17, u18, u7, wz, rfl, φ, rfl⟩ hL hpre hcl hK G hG
    simp [Region.binds, closedFrom] at hpre hcl
    have hst : L 10 = false := by
      cases h : L 10 with
      | false => rfl
      | true => simp [h, hL] at hcl
    simp only [hst, Bool.false_eq_true, if_false] at hK hG
    have hk := hK [u10, u11, u12, u13, u14, u15, u16, u17, u18, (.pointer (some ⟨wz.heap.size, 0, none⟩))] (wz.alloc (.cells #[.int .i64 0, .slice none 0 0, .slice none 0 0] 29)) ⟨_, _, _, _, _, _, _, _, _, _, (wz.alloc (.cells #[.int .i64 0, .slice none 0 0, .slice none 0 0] 29)), rfl,
      { b := φ.b.alloc φ.b.size _,
        s0 := fun h0 => φ.s0 (by simpa using h0),
        s1 := fun h0 => φ.s1 (by simpa using h0),
        s2 := fun h0 => φ.s2 (by simpa using h0),
        s3 := fun h0 => φ.s3 (by simpa using h0),
        s4 := fun h0 => (φ.s4 (by simpa using h0)).alloc _,
        s5 := fun h0 => φ.s5 (by simpa using h0),
        s6 := fun h0 => φ.s6 (by simpa using h0),
        s7 := fun h0 => (φ.s7 (by simpa using h0)).alloc _,
        s8 := fun h0 => φ.s8 (by simpa using h0),
        x9 := fun _ => ⟨wz.heap.size, rfl, φ.b.size, by simp, heap_alloc_new wz _⟩,
        d4 := fun _ h0 X hX e => by
          obtain rfl : wz.heap.size = X := by simpa using hX
          exact Nat.lt_irrefl _ ((φ.s4 (by simpa using h0)).lt _ e).2,
        d7 := fun _ h0 X hX e => by
          obtain rfl : wz.heap.size = X := by simpa using hX
          exact Nat.lt_irrefl _ ((φ.s7 (by simpa using h0)).lt _ e).2 }, by simp [hst]⟩
    refine hG ?_
    clear hK φ hG
    revert hk
    go_simp
    first | done | exact fun h => h
  case q10 =>
    rintro L vs w' K ⟨u10, u11, u12, u13, u14, u15, u16, u17, u18, u7, wz, rfl, φ, rfl⟩ hL hpre hcl hK G hG
    simp [Region.binds, closedFrom] at hpre hcl
    simp only [hL, Bool.false_eq_true, if_false] at hK hG
    obtain ⟨A3, c3, rfl⟩ := own_shape (φ.s4 (by simp [hpre]))
    obtain ⟨B3, d3, rfl⟩ := own_shape (φ.s7 (by simp [hpre]))
    obtain rfl := φ.s8 (by simp [hpre])
    obtain ⟨X, rfl, x2, x3, x4⟩ := φ.x9 (by simp [hpre])
    obtain ⟨y0, y1, y2, z0, z1, z2⟩ := cells3 x4
    have hk := hK [u10, u11, u12, u13, (.slice A3 n c3), u15, u16, (.slice B3 m d3), (.agg #[.int .i64 g.next, .slice A3 n c3, .slice B3 m d3]), (.pointer (some ⟨X, 0, none⟩))] (((wz.setCell ⟨X, 0, none⟩ (.int .i64 g.next)).setCell ⟨X, 1, none⟩ (.slice A3 n c3)).setCell ⟨X, 2, none⟩ (.slice B3 m d3)) ⟨_, _, _, _, _, _, _, _, _, _, wz, rfl,
      { b := φ.b,
        s0 := fun h0 => φ.s0 (by simpa using h0),
        s1 := fun h0 => φ.s1 (by simpa using h0),
        s2 := fun h0 => φ.s2 (by simpa using h0),
        s3 := fun h0 => φ.s3 (by simpa using h0),
        s4 := fun h0 => φ.s4 (by simpa using h0),
        s5 := fun h0 => φ.s5 (by simpa using h0),
        s6 := fun h0 => φ.s6 (by simpa using h0),
        s7 := fun h0 => φ.s7 (by simpa using h0),
        s8 := fun h0 => φ.s8 (by simpa using h0),
        x9 := fun h0 => φ.x9 (by simpa using h0),
        d4 := fun h0 h1 => φ.d4 (by simpa using h0) (by simpa using h1),
        d7 := fun h0 h1 => φ.d7 (by simpa using h0) (by simpa using h1) }, by simp [laid3]⟩
    refine hG ?_
    clear hK φ hG
    revert hk
    go_simp
    first | done | exact fun h => h
  case hend =>
    rintro vs w' ⟨u10, u11, u12, u13, u14, u15, u16, u17, u18, u7, wz, rfl, φ, rfl⟩ G hG
    have o4 := φ.s4 rfl
    have o7 := φ.s7 rfl
    have b9 := φ.b
    obtain ⟨A3, c3, rfl⟩ := own_shape o4
    obtain ⟨B3, d3, rfl⟩ := own_shape o7
    obtain ⟨X7, rfl, x2, x3, x4⟩ := φ.x9 rfl
    obtain ⟨y0, y1, y2, z0, z1, z2⟩ := cells3 x4
    have ne7 := φ.d4 rfl rfl X7 rfl
    have ne8 := φ.d7 rfl rfl X7 rfl
    clear φ
    have hst : decide (10 < 11) = true := rfl
    simp only [List.size_toArray, List.length_cons, List.length_nil, Nat.zero_add, Nat.reduceAdd, hst, if_true, laid3] at hG
    have CP := copied3 (g := g) (n := n) (m := m) (A := A3) (c := c3) (B := B3) (d := d3) y0 y1 y2 z0 z1 z2 x2 x3 o4 o7 ne7 ne8 b9
    clear hst o4 o7 b9 x2 x3 x4 y0 y1 y2 z0 z1 z2 ne7 ne8
    refine hG ?_
    clear hG
    generalize ((wz.setCell ⟨X7, 0, none⟩ (.int .i64 g.next)).setCell ⟨X7, 1, none⟩ (.slice A3 n c3)).setCell ⟨X7, 2, none⟩ (.slice B3 m d3) = w2 at *
    obtain ⟨x0, x1, x2, f0, f1, f2, lo, hi, own, ownC, ne, neC, b9⟩ := CP
    have qP : w.heap.size + 1 + 1 < X7 := Nat.lt_of_lt_of_le ltR lo
    have loS : w.heap.size + 3 ≤ W0.drew.heap.size := by omega
    replace e0 := (b9.cell (p := ⟨w.heap.size, 0, none⟩) (World.block_lt_of_cell? _ _ e0)).trans e0
    replace e1 := (b9.cell (p := ⟨w.heap.size, 1, none⟩) (World.block_lt_of_cell? _ _ e1)).trans e1
    replace e2 := (b9.cell (p := ⟨w.heap.size, 2, none⟩) (World.block_lt_of_cell? _ _ e2)).trans e2
    replace p0 := (b9.cell (p := ⟨w.heap.size + 1, 0, none⟩) (World.block_lt_of_cell? _ _ p0)).trans p0
    replace p1 := (b9.cell (p := ⟨w.heap.size + 1, 1, none⟩) (World.block_lt_of_cell? _ _ p1)).trans p1
    replace r0 := (b9.cell (p := ⟨w.heap.size + 1 + 1, 0, none⟩) (World.block_lt_of_cell? _ _ r0)).trans r0
    replace r1 := (b9.cell (p := ⟨w.heap.size + 1 + 1, 1, none⟩) (World.block_lt_of_cell? _ _ r1)).trans r1
    replace r2 := (b9.cell (p := ⟨w.heap.size + 1 + 1, 2, none⟩) (World.block_lt_of_cell? _ _ r2)).trans r2
    replace fr0 := (b9.frozen (p := ⟨w.heap.size + 1 + 1, 0, none⟩) ltR).trans fr0
    replace fr1 := (b9.frozen (p := ⟨w.heap.size + 1 + 1, 1, none⟩) ltR).trans fr1
    replace fr2 := (b9.frozen (p := ⟨w.heap.size + 1 + 1, 2, none⟩) ltR).trans fr2
    replace ltB := Nat.lt_of_lt_of_le ltB b9.size
    replace ltP := Nat.lt_of_lt_of_le ltP b9.size
    replace ltR := Nat.lt_of_lt_of_le ltR b9.size
    replace b0 := b0.trans (b9.mono b0.size)
    clear b9 cC cW
    go_wp2_with fail
    refine (cR _ b0).mono ?_
    rintro e w3 ⟨rfl, hb3⟩
    replace e0 := (hb3.cell (p := ⟨w.heap.size, 0, none⟩) (World.block_lt_of_cell? _ _ e0)).trans e0
    replace e1 := (hb3.cell (p := ⟨w.heap.size, 1, none⟩) (World.block_lt_of_cell? _ _ e1)).trans e1
    replace e2 := (hb3.cell (p := ⟨w.heap.size, 2, none⟩) (World.block_lt_of_cell? _ _ e2)).trans e2
    replace p0 := (hb3.cell (p := ⟨w.heap.size + 1, 0, none⟩) (World.block_lt_of_cell? _ _ p0)).trans p0
    replace p1 := (hb3.cell (p := ⟨w.heap.size + 1, 1, none⟩) (World.block_lt_of_cell? _ _ p1)).trans p1
    replace r0 := (hb3.cell (p := ⟨w.heap.size + 1 + 1, 0, none⟩) (World.block_lt_of_cell? _ _ r0)).trans r0
    replace r1 := (hb3.cell (p := ⟨w.heap.size + 1 + 1, 1, none⟩) (World.block_lt_of_cell? _ _ r1)).trans r1
    replace r2 := (hb3.cell (p := ⟨w.heap.size + 1 + 1, 2, none⟩) (World.block_lt_of_cell? _ _ r2)).trans r2
    replace x0 := (hb3.cell (p := ⟨X7, 0, none⟩) (World.block_lt_of_cell? _ _ x0)).trans x0
    replace x1 := (hb3.cell (p := ⟨X7, 1, none⟩) (World.block_lt_of_cell? _ _ x1)).trans x1
    replace x2 := (hb3.cell (p := ⟨X7, 2, none⟩) (World.block_lt_of_cell? _ _ x2)).trans x2
    replace fr0 := (hb3.frozen (p := ⟨w.heap.size + 1 + 1, 0, none⟩) ltR).trans fr0
    replace fr1 := (hb3.frozen (p := ⟨w.heap.size + 1 + 1, 1, none⟩) ltR).trans fr1
    replace fr2 := (hb3.frozen (p := ⟨w.heap.size + 1 + 1, 2, none⟩) ltR).trans fr2
    replace f0 := (hb3.frozen (p := ⟨X7, 0, none⟩) hi).trans f0
    replace f1 := (hb3.frozen (p := ⟨X7, 1, none⟩) hi).trans f1
    replace f2 := (hb3.frozen (p := ⟨X7, 2, none⟩) hi).trans f2
    replace ltB := Nat.lt_of_lt_of_le ltB hb3.size
    replace ltP := Nat.lt_of_lt_of_le ltP hb3.size
    replace ltR := Nat.lt_of_lt_of_le ltR hb3.size
    replace hi := Nat.lt_of_lt_of_le hi hb3.size
    replace own := own_below own hb3
    replace ownC := own_below ownC hb3
    replace b0 := b0.trans (hb3.mono b0.size)
    clear hb3 cR
    have sE := Sl.of_own Pce.enc_len own HN.out
    have sC := Sl.of_own Wrd.enc_len ownC HM.out
    have fA : ∀ a, A3 = some a → w.heap.size + 3 ≤ a.block := own_fresh own loS
    have fB : ∀ a, B3 = some a → w.heap.size + 3 ≤ a.block := own_fresh ownC loS
    clear own ownC
    go_wp2_with fail
    go_region
    go_wp2_with fail
    exact bodyPost_ret (v := .tuple #[.agg #[.int .i64 g.next, .slice A3 n c3, .slice B3 m d3], .int .i64 g.next, .int .i64 1]) (by simp [results, Try.results7, go_sem, r0, r1, r2]) rfl (gaveG_ret HN.out HM.out sE sC fA fB b0)

set_option maxHeartbeats 16000000 in
theorem get_neg (A B : Option Addr) (c d n m : Nat) (g : Gtr) (p : Pce) (w : World) (hs : Sl 2 Pce.enc w A g.early) (hc : Sl 1 Wrd.enc w B g.came) (hn : g.early.length = n) (hm : g.came.length = m) (hn1 : n ≤ 1000000) (hm1 : m ≤ 1000000)
    (hr : gRight g = true) (hp : p.num < 0) :
    Calls Try.prog 7 #[.agg #[.int .i64 g.next, .slice A n c, .slice B m d], .agg #[.int .i64 p.num, .int .u32 p.val]] w (GaveG w g g.next 1) := by
  have b0 : Below w.heap.size w (((w.alloc (.cells #[.int .i64 g.next, .slice A n c, .slice B m d] 29)).alloc (.cells #[.int .i64 p.num, .int .u32 p.val] 34)).alloc (.cells #[.int .i64 0, .slice none 0 0, .slice none 0 0] 29)).drew := ((((Below.refl _ _).alloc (Nat.le_refl _) _).alloc (by simp) _).alloc (by simp <;> omega) _).drew
  have e0 : (((w.alloc (.cells #[.int .i64 g.next, .slice A n c, .slice B m d] 29)).alloc (.cells #[.int .i64 p.num, .int .u32 p.val] 34)).alloc (.cells #[.int .i64 0, .slice none 0 0, .slice none 0 0] 29)).drew.cell? ⟨w.heap.size, 0, none⟩ = some (.int .i64 g.next) := by go_simp
  have e1 : (((w.alloc (.cells #[.int .i64 g.next, .slice A n c, .slice B m d] 29)).alloc (.cells #[.int .i64 p.num, .int .u32 p.val] 34)).alloc (.cells #[.int .i64 0, .slice none 0 0, .slice none 0 0] 29)).drew.cell? ⟨w.heap.size, 1, none⟩ = some (.slice A n c) := by go_simp
  have e2 : (((w.alloc (.cells #[.int .i64 g.next, .slice A n c, .slice B m d] 29)).alloc (.cells #[.int .i64 p.num, .int .u32 p.val] 34)).alloc (.cells #[.int .i64 0, .slice none 0 0, .slice none 0 0] 29)).drew.cell? ⟨w.heap.size, 2, none⟩ = some (.slice B m d) := by go_simp
  have p0 : (((w.alloc (.cells #[.int .i64 g.next, .slice A n c, .slice B m d] 29)).alloc (.cells #[.int .i64 p.num, .int .u32 p.val] 34)).alloc (.cells #[.int .i64 0, .slice none 0 0, .slice none 0 0] 29)).drew.cell? ⟨w.heap.size + 1, 0, none⟩ = some (.int .i64 p.num) := by go_simp
  have p1 : (((w.alloc (.cells #[.int .i64 g.next, .slice A n c, .slice B m d] 29)).alloc (.cells #[.int .i64 p.num, .int .u32 p.val] 34)).alloc (.cells #[.int .i64 0, .slice none 0 0, .slice none 0 0] 29)).drew.cell? ⟨w.heap.size + 1, 1, none⟩ = some (.int .u32 p.val) := by go_simp
  have r0 : (((w.alloc (.cells #[.int .i64 g.next, .slice A n c, .slice B m d] 29)).alloc (.cells #[.int .i64 p.num, .int .u32 p.val] 34)).alloc (.cells #[.int .i64 0, .slice none 0 0, .slice none 0 0] 29)).drew.cell? ⟨w.heap.size + 1 + 1, 0, none⟩ = some (.int .i64 0) := by go_simp
  have r1 : (((w.alloc (.cells #[.int .i64 g.next, .slice A n c, .slice B m d] 29)).alloc (.cells #[.int .i64 p.num, .int .u32 p.val] 34)).alloc (.cells #[.int .i64 0, .slice none 0 0, .slice none 0 0] 29)).drew.cell? ⟨w.heap.size + 1 + 1, 1, none⟩ = some (.slice none 0 0) := by go_simp
  have r2 : (((w.alloc (.cells #[.int .i64 g.next, .slice A n c, .slice B m d] 29)).alloc (.cells #[.int .i64 p.num, .int .u32 p.val] 34)).alloc (.cells #[.int .i64 0, .slice none 0 0, .slice none 0 0] 29)).drew.cell? ⟨w.heap.size + 1 + 1, 2, none⟩ = some (.slice none 0 0) := by go_simp
  have fr0 : (((w.alloc (.cells #[.int .i64 g.next, .slice A n c, .slice B m d] 29)).alloc (.cells #[.int .i64 p.num, .int .u32 p.val] 34)).alloc (.cells #[.int .i64 0, .slice none 0 0, .slice none 0 0] 29)).drew.frozen? ⟨w.heap.size + 1 + 1, 0, none⟩ = false := by go_simp
  have fr1 : (((w.alloc (.cells #[.int .i64 g.next, .slice A n c, .slice B m d] 29)).alloc (.cells #[.int .i64 p.num, .int .u32 p.val] 34)).alloc (.cells #[.int .i64 0, .slice none 0 0, .slice none 0 0] 29)).drew.frozen? ⟨w.heap.size + 1 + 1, 1, none⟩ = false := by go_simp
  have fr2 : (((w.alloc (.cells #[.int .i64 g.next, .slice A n c, .slice B m d] 29)).alloc (.cells #[.int .i64 p.num, .int .u32 p.val] 34)).alloc (.cells #[.int .i64 0, .slice none 0 0, .slice none 0 0] 29)).drew.frozen? ⟨w.heap.size + 1 + 1, 2, none⟩ = false := by go_simp
  have ltB : w.heap.size < (((w.alloc (.cells #[.int .i64 g.next, .slice A n c, .slice B m d] 29)).alloc (.cells #[.int .i64 p.num, .int .u32 p.val] 34)).alloc (.cells #[.int .i64 0, .slice none 0 0, .slice none 0 0] 29)).drew.heap.size := by simp <;> omega
  have ltP : w.heap.size + 1 < (((w.alloc (.cells #[.int .i64 g.next, .slice A n c, .slice B m d] 29)).alloc (.cells #[.int .i64 p.num, .int .u32 p.val] 34)).alloc (.cells #[.int .i64 0, .slice none 0 0, .slice none 0 0] 29)).drew.heap.size := by simp <;> omega
  have ltR : w.heap.size + 1 + 1 < (((w.alloc (.cells #[.int .i64 g.next, .slice A n c, .slice B m d] 29)).alloc (.cells #[.int .i64 p.num, .int .u32 p.val] 34)).alloc (.cells #[.int .i64 0, .slice none 0 0, .slice none 0 0] 29)).drew.heap.size := by simp <;> omega
  have cC := fun w1 (hb : Below (((w.alloc (.cells #[.int .i64 g.next, .slice A n c, .slice B m d] 29)).alloc (.cells #[.int .i64 p.num, .int .u32 p.val] 34)).alloc (.cells #[.int .i64 0, .slice none 0 0, .slice none 0 0] 29)).drew.heap.size (((w.alloc (.cells #[.int .i64 g.next, .slice A n c, .slice B m d] 29)).alloc (.cells #[.int .i64 p.num, .int .u32 p.val] 34)).alloc (.cells #[.int .i64 0, .slice none 0 0, .slice none 0 0] 29)).drew w1) => cloneP_any A c n g.early w1 (hs.below (b0.trans (hb.mono b0.size))) hn hn1
  have cW := fun w1 (hb : Below (((w.alloc (.cells #[.int .i64 g.next, .slice A n c, .slice B m d] 29)).alloc (.cells #[.int .i64 p.num, .int .u32 p.val] 34)).alloc (.cells #[.int .i64 0, .slice none 0 0, .slice none 0 0] 29)).drew.heap.size (((w.alloc (.cells #[.int .i64 g.next, .slice A n c, .slice B m d] 29)).alloc (.cells #[.int .i64 p.num, .int .u32 p.val] 34)).alloc (.cells #[.int .i64 0, .slice none 0 0, .slice none 0 0] 29)).drew w1) => cloneW_any B d m g.came w1 (hc.below (b0.trans (hb.mono b0.size))) hm hm1
  have cR := fun w1 (hb : Below w.heap.size w w1) => gRight_any A B c d n m g w1 (hs.below hb) hn
  rw [hr] at cR
  have zp : decide (p.num < 0) = true := decide_eq_true hp
  clear hr hp
  have HN := Lib.hid hn
  have HM := Lib.hid hm
  clear hs hc hn hm
  go_enter Try.func7, Try.ntmps7
  go_wp2_with fail
  generalize (((w.alloc (.cells #[.int .i64 g.next, .slice A n c, .slice B m d] 29)).alloc (.cells #[.int .i64 p.num, .int .u32 p.val] 34)).alloc (.cells #[.int .i64 0, .slice none 0 0, .slice none 0 0] 29)) = W0 at *
  refine wp_region_rg (by kernel_rfl) (by kernel_rfl) [10, 11, 12, 13, 14, 15, 16, 17, 18, 7] (GetRPhi W0.drew w.heap.size A n c B m d g) ?h0 ⟨?q0, ?q1, ?q2, ?q3, ?q4, ?q5, ?q6, ?q7, ?q8, ?q9, ?q10, trivial⟩ ?hend
  case h0 => exact ⟨_, _, _, _, _, _, _, _, _, _, _, rfl, ⟨Below.refl _ _, (fun h => by cases h), (fun h => by cases h), (fun h => by cases h), (fun h => by cases h), (fun h => by cases h), (fun h => by cases h), (fun h => by cases h), (fun h => by cases h), (fun h => by cases h), (fun h => by cases h), (fun h => by cases h), (fun h => by cases h)⟩, rfl⟩
  case q0 =>
    rintro L vs w' K ⟨u10, u11, u12, u13, u14, u15, u16, u17, u18, u7, wz, rfl, φ, rfl⟩ hL hpre hcl hK G hG
    simp [Region.binds, closedFrom] at hpre hcl
    have hst : L 10 = false := by
      cases h : L 10 with
      | false => rfl
      | true => simp [h, hL] at hcl
    simp only [hst, Bool.false_eq_true, if_false] at hK hG
    have hk := hK [(.pointer (some ⟨w.heap.size, 0, none⟩)), u11, u12, u13, u14, u15, u16, u17, u18, u7] wz ⟨_, _, _, _, _, _, _, _, _, _, wz, rfl,
      { b := φ.b,
        s0 := fun _ => rfl,
        s1 := fun h0 => φ.s1 (by simpa using h0),
        s2 := fun h0 => φ.s2 (by simpa using h0),
        s3 := fun h0 => φ.s3 (by simpa using h0),
        s4 := fun h0 => φ.s4 (by simpa using h0),
        s5 := fun h0 => φ.s5 (by simpa using h0),
        s6 := fun h0 => φ.s6 (by simpa using h0),
        s7 := fun h0 => φ.s7 (by simpa using h0),
        s8 := fun h0 => φ.s8 (by simpa using h0),
        x9 := fun h0 => φ.x9 (by simpa using h0),
        d4 := fun h0 h1 => φ.d4 (by simpa using h0) (by simpa using h1),
        d7 := fun h0 h1 => φ.d7 (by simpa using h0) (by simpa using h1) }, by simp [hst]⟩
    refine hG ?_
    clear hK φ hG
    revert hk
    go_simp
    first | done | exact fun h => h
  case q1 =>
    rintro L vs w' K ⟨u10, u11, u12, u13, u14, u15, u16, u17, u18, u7, wz, rfl, φ, rfl⟩ hL hpre hcl hK G hG
    simp [Region.binds, closedFrom] at hpre hcl
    have hst : L 10 = false := by
      cases h : L 10 with
      | false => rfl
      | true => simp [h, hL] at hcl
    simp only [hst, Bool.false_eq_true, if_false] at hK hG
    obtain rfl := φ.s0 (by simp [hpre])
    have ce := (φ.b.cell (p := ⟨w.heap.size, 0, none⟩) ltB).trans e0
    have hk := hK [(.pointer (some ⟨w.heap.size, 0, none⟩)), (.int .i64 g.next), u12, u13, u14, u15, u16, u17, u18, u7] wz ⟨_, _, _, _, _, _, _, _, _, _, wz, rfl,
      { b := φ.b,
        s0 := fun h0 => φ.s0 (by simpa using h0),
        s1 := fun _ => rfl,
        s2 := fun h0 => φ.s2 (by simpa using h0),
        s3 := fun h0 => φ.s3 (by simpa using h0),
        s4 := fun h0 => φ.s4 (by simpa using h0),
        s5 := fun h0 => φ.s5 (by simpa using h0),
        s6 := fun h0 => φ.s6 (by simpa using h0),
        s7 := fun h0 => φ.s7 (by simpa using h0),
        s8 := fun h0 => φ.s8 (by simpa using h0),
        x9 := fun h0 => φ.x9 (by simpa using h0),
        d4 := fun h0 h1 => φ.d4 (by simpa using h0) (by simpa using h1),
        d7 := fun h0 h1 => φ.d7 (by simpa using h0) (by simpa using h1) }, by simp [hst]⟩
    refine hG ?_
    clear hK φ hG
    revert hk
    go_simp
    first | done | exact fun h => h
  case q2 =>
    rintro L vs w' K ⟨u10, u11, u12, u13, u14, u15, u16, u17, u18, u7, wz, rfl, φ, rfl⟩ hL hpre hcl hK G hG
    simp [Region.binds, closedFrom] at hpre hcl
    have hst : L 10 = false := by
      cases h : L 10 with
      | false => rfl
      | true => simp [h, hL] at hcl
    simp only [hst, Bool.false_eq_true, if_false] at hK hG
    have hk := hK [u10, u11, (.pointer (some ⟨w.heap.size, 1, none⟩)), u13, u14, u15, u16, u17, u18, u7] wz ⟨_, _, _, _, _, _, _, _, _, _, wz, rfl,
      { b := φ.b,
        s0 := fun h0 => φ.s0 (by simpa using h0),
        s1 := fun h0 => φ.s1 (by simpa using h0),
        s2 := fun _ => rfl,
        s3 := fun h0 => φ.s3 (by simpa using h0),
        s4 := fun h0 => φ.s4 (by simpa using h0),
        s5 := fun h0 => φ.s5 (by simpa using h0),
        s6 := fun h0 => φ.s6 (by simpa using h0),
        s7 := fun h0 => φ.s7 (by simpa using h0),
        s8 := fun h0 => φ.s8 (by simpa using h0),
        x9 := fun h0 => φ.x9 (by simpa using h0),
        d4 := fun h0 h1 => φ.d4 (by simpa using h0) (by simpa using h1),
        d7 := fun h0 h1 => φ.d7 (by simpa using h0) (by simpa using h1) }, by simp [hst]⟩
    refine hG ?_
    clear hK φ hG
    revert hk
    go_simp
    first | done | exact fun h => h
  case q3 =>
    rintro L vs w' K ⟨u10, u11, u12, u13, u14, u15, u16, u17, u18, u7, wz, rfl, φ, rfl⟩ hL hpre hcl hK G hG
    simp [Region.binds, closedFrom] at hpre hcl
    have hst : L 10 = false := by
      cases h : L 10 with
      | false => rfl
      | true => simp [h, hL] at hcl
    simp only [hst, Bool.false_eq_true, if_false] at hK hG
    obtain rfl := φ.s2 (by simp [hpre])
    have ce := (φ.b.cell (p := ⟨w.heap.size, 1, none⟩) ltB).trans e1
    have hk := hK [u10, u11, (.pointer (some ⟨w.heap.size, 1, none⟩)), (.slice A n c), u14, u15, u16, u17, u18, u7] wz ⟨_, _, _, _, _, _, _, _, _, _, wz, rfl,
      { b := φ.b,
        s0 := fun h0 => φ.s0 (by simpa using h0),
        s1 := fun h0 => φ.s1 (by simpa using h0),
        s2 := fun h0 => φ.s2 (by simpa using h0),
        s3 := fun _ => rfl,
        s4 := fun h0 => φ.s4 (by simpa using h0),
        s5 := fun h0 => φ.s5 (by simpa using h0),
        s6 := fun h0 => φ.s6 (by simpa using h0),
        s7 := fun h0 => φ.s7 (by simpa using h0),
        s8 := fun h0 => φ.s8 (by simpa using h0),
        x9 := fun h0 => φ.x9 (by simpa using h0),
        d4 := fun h0 h1 => φ.d4 (by simpa using h0) (by simpa using h1),
        d7 := fun h0 h1 => φ.d7 (by simpa using h0) (by simpa using h1) }, by simp [hst]⟩
    refine hG ?_
    clear hK φ hG
    revert hk
    go_simp
    first | done | exact fun h => h
  case q4 =>
    rintro L vs w' K ⟨u10, u11, u12, u13, u14, u15, u16, u17, u18, u7, wz, rfl, φ, rfl⟩ hL hpre hcl hK G hG
    simp [Region.binds, closedFrom] at hpre hcl
    have hst : L 10 = false := by
      cases h : L 10 with
      | false => rfl
      | true => simp [h, hL] at hcl
    simp only [hst, Bool.false_eq_true, if_false] at hK hG
    obtain rfl := φ.s3 (by simp [hpre])
    have L8 : L 8 = false := by
      cases h : L 8 with
      | false => rfl
      | true => simp [h, hL] at hcl
    refine hG (step_call wz rfl 13 #[.tmp 13] #[25] rfl #[.slice A n c] (by simp [Act.eval, Act.puts, Act.put]) (enters_of Try.func13 (by kernel_rfl) rfl) (cC wz φ.b) ?_)
    rintro e w9 ⟨v', rfl, ownN, hb9⟩
    refine ⟨v', rfl, ?_⟩
    have hk := hK [u10, u11, u12, (.slice A n c), (v'), u15, u16, u17, u18, u7] w9 ⟨_, _, _, _, _, _, _, _, _, _, w9, rfl,
      { b := φ.b.trans (hb9.mono φ.b.size),
        s0 := fun h0 => φ.s0 (by simpa using h0),
        s1 := fun h0 => φ.s1 (by simpa using h0),
        s2 := fun h0 => φ.s2 (by simpa using h0),
        s3 := fun h0 => φ.s3 (by simpa using h0),
        s4 := fun _ => own_weaken' ownN φ.b.size,
        s5 := fun h0 => φ.s5 (by simpa using h0),
        s6 := fun h0 => φ.s6 (by simpa using h0),
        s7 := fun h => own_below (φ.s7 (by simpa using h)) hb9,
        s8 := fun h => by simp [L8] at h,
        x9 := fun h => by
          obtain ⟨X, y1, y2, y3, y4⟩ := φ.x9 (by simpa using h)
          exact ⟨X, y1, y2, Nat.lt_of_lt_of_le y3 hb9.size, (hb9.block X y3).trans y4⟩,
        d4 := fun h _ X hX hE => by
          obtain ⟨X', y1, y2, y3, _⟩ := φ.x9 (by simpa using h)
          rw [hX] at y1
          obtain rfl : X = X' := by simpa using y1
          have := (ownN.lt _ hE).1
          omega,
        d7 := fun h0 h1 => φ.d7 (by simpa using h0) (by simpa using h1) }, by simp [hst]⟩
    clear hK φ hG
    revert hk
    go_simp
    first | done | exact fun h => h
  case q5 =>
    rintro L vs w' K ⟨u10, u11, u12, u13, u14, u15, u16, u17, u18, u7, wz, rfl, φ, rfl⟩ hL hpre hcl hK G hG
    simp [Region.binds, closedFrom] at hpre hcl
    have hst : L 10 = false := by
      cases h : L 10 with
      | false => rfl
      | true => simp [h, hL] at hcl
    simp only [hst, Bool.false_eq_true, if_false] at hK hG
    have hk := hK [u10, u11, u12, u13, u14, (.pointer (some ⟨w.heap.size, 2, none⟩)), u16, u17, u18, u7] wz ⟨_, _, _, _, _, _, _, _, _, _, wz, rfl,
      { b := φ.b,
        s0 := fun h0 => φ.s0 (by simpa using h0),
        s1 := fun h0 => φ.s1 (by simpa using h0),
        s2 := fun h0 => φ.s2 (by simpa using h0),
        s3 := fun h0 => φ.s3 (by simpa using h0),
        s4 := fun h0 => φ.s4 (by simpa using h0),
        s5 := fun _ => rfl,
        s6 := fun h0 => φ.s6 (by simpa using h0),
        s7 := fun h0 => φ.s7 (by simpa using h0),
        s8 := fun h0 => φ.s8 (by simpa using h0),
        x9 := fun h0 => φ.x9 (by simpa using h0),
        d4 := fun h0 h1 => φ.d4 (by simpa using h0) (by simpa using h1),
        d7 := fun h0 h1 => φ.d7 (by simpa using h0) (by simpa using h1) }, by simp [hst]⟩
    refine hG ?_
    clear hK φ hG
    revert hk
    go_simp
    first | done | exact fun h => h
  case q6 =>
    rintro L vs w' K ⟨u10, u11, u12, u13, u14, u15, u16, u17, u18, u7, wz, rfl, φ, rfl⟩ hL hpre hcl hK G hG
    simp [Region.binds, closedFrom] at hpre hcl
    have hst : L 10 = false := by
      cases h : L 10 with
      | false => rfl
      | true => simp [h, hL] at hcl
    simp only [hst, Bool.false_eq_true, if_false] at hK hG
    obtain rfl := φ.s5 (by simp [hpre])
    have ce := (φ.b.cell (p := ⟨w.heap.size, 2, none⟩) ltB).trans e2
    have hk := hK [u10, u11, u12, u13, u14, (.pointer (some ⟨w.heap.size, 2, none⟩)), (.slice B m d), u17, u18, u7] wz ⟨_, _, _, _, _, _, _, _, _, _, wz, rfl,
      { b := φ.b,
        s0 := fun h0 => φ.s0 (by simpa using h0),
        s1 := fun h0 => φ.s1 (by simpa using h0),
        s2 := fun h0 => φ.s2 (by simpa using h0),
        s3 := fun h0 => φ.s3 (by simpa using h0),
        s4 := fun h0 => φ.s4 (by simpa using h0),
        s5 := fun h0 => φ.s5 (by simpa using h0),
        s6 := fun _ => rfl,
        s7 := fun h0 => φ.s7 (by simpa using h0),
        s8 := fun h0 => φ.s8 (by simpa using h0),
        x9 := fun h0 => φ.x9 (by simpa using h0),
        d4 := fun h0 h1 => φ.d4 (by simpa using h0) (by simpa using h1),
        d7 := fun h0 h1 => φ.d7 (by simpa using h0) (by simpa using h1) }, by simp [hst]⟩
    refine hG ?_
    clear hK φ hG
    revert hk
    go_simp
    first | done | exact fun h => h
  case q7 =>
    rintro L vs w' K ⟨u10, u11, u12, u13, u14, u15, u16, u17, u18, u7, wz, rfl, φ, rfl⟩ hL hpre hcl hK G hG
    simp [Region.binds, closedFrom] at hpre hcl
    have hst : L 10 = false := by
      cases h : L 10 with
      | false => rfl
      | true => simp [h, hL] at hcl
    simp only [hst, Bool.false_eq_true, if_false] at hK hG
    obtain rfl := φ.s6 (by simp [hpre])
    have L8 : L 8 = false := by
      cases h : L 8 with
      | false => rfl
      | true => simp [h, hL] at hcl
    refine hG (step_call wz rfl 14 #[.tmp 16] #[22] rfl #[.slice B m d] (by simp [Act.eval, Act.puts, Act.put]) (enters_of Try.func14 (by kernel_rfl) rfl) (cW wz φ.b) ?_)
    rintro e w9 ⟨v', rfl, ownN, hb9⟩
    refine ⟨v', rfl, ?_⟩
    have hk := hK [u10, u11, u12, u13, u14, u15, (.slice B m d), (v'), u18, u7] w9 ⟨_, _, _, _, _, _, _, _, _, _, w9, rfl,
      { b := φ.b.trans (hb9.mono φ.b.size),
        s0 := fun h0 => φ.s0 (by simpa using h0),
        s1 := fun h0 => φ.s1 (by simpa using h0),
        s2 := fun h0 => φ.s2 (by simpa using h0),
        s3 := fun h0 => φ.s3 (by simpa using h0),
        s4 := fun h => own_below (φ.s4 (by simpa using h)) hb9,
        s5 := fun h0 => φ.s5 (by simpa using h0),
        s6 := fun h0 => φ.s6 (by simpa using h0),
        s7 := fun _ => own_weaken' ownN φ.b.size,
        s8 := fun h => by simp [L8] at h,
        x9 := fun h => by
          obtain ⟨X, y1, y2, y3, y4⟩ := φ.x9 (by simpa using h)
          exact ⟨X, y1, y2, Nat.lt_of_lt_of_le y3 hb9.size, (hb9.block X y3).trans y4⟩,
        d4 := fun h0 h1 => φ.d4 (by simpa using h0) (by simpa using h1),
        d7 := fun h _ X hX hE => by
          obtain ⟨X', y1, y2, y3, _⟩ := φ.x9 (by simpa using h)
          rw [hX] at y1
          obtain rfl : X = X' := by simpa using y1
          have := (ownN.lt _ hE).1
          omega }, by simp [hst]⟩
    clear hK φ hG
    revert hk
    go_simp
    first | done | exact fun h => h
  case q8 =>
    rintro L vs w' K ⟨u10, u11, u12, u13, u14, u15, u16, u17, u18, u7, wz, rfl, φ, rfl⟩ hL hpre hcl hK G hG
    simp [Region.binds, closedFrom] at hpre hcl
    have hst : L 10 = false := by
      cases h : L 10 with
      | false => rfl
      | true => simp [h, hL] at hcl
    simp only [hst, Bool.false_eq_true, if_false] at hK hG
    obtain rfl := φ.s1 (by simp [hpre])
    obtain ⟨A3, c3, rfl⟩ := own_shape (φ.s4 (by simp [hpre]))
    obtain ⟨B3, d3, rfl⟩ := own_shape (φ.s7 (by simp [hpre]))
    have hk := hK [u10, (.int .i64 g.next), u12, u13, (.slice A3 n c3), u15, u16, (.slice B3 m d3), (.agg #[.int .i64 g.next, .slice A3 n c3, .slice B3 m d3]), u7] wz ⟨_, _, _, _, _, _, _, _, _, _, wz, rfl,
      { b := φ.b,
        s0 := fun h0 => φ.s0 (by simpa using h0),
        s1 := fun h0 => φ.s1 (by simpa using h0),
        s2 := fun h0 => φ.s2 (by simpa using h0),
        s3 := fun h0 => φ.s3 (by simpa using h0),
        s4 := fun h0 => φ.s4 (by simpa using h0),
        s5 := fun h0 => φ.s5 (by simpa using h0),
        s6 := fun h0 => φ.s6 (by simpa using h0),
        s7 := fun h0 => φ.s7 (by simpa using h0),
        s8 := fun _ => rfl,
        x9 := fun h0 => φ.x9 (by simpa using h0),
        d4 := fun h0 h1 => φ.d4 (by simpa using h0) (by simpa using h1),
        d7 := fun h0 h1 => φ.d7 (by simpa using h0) (by simpa using h1) }, by simp [hst]⟩
    refine hG ?_
    clear hK φ hG
    revert hk
    go_simp
    first | done | exact fun h => h
  case q9 =>
    rintro L vs w' K ⟨u10, u11, u12, u13, u14, u15, u16, u17, u18, u7, wz, rfl, φ, rfl⟩ hL hpre hcl hK G hG
    simp [Region.binds, closedFrom] at hpre hcl
    have hst : L 10 = false := by
      cases h : L 10 with
      | false => rfl
      | true => simp [h, hL] at hcl
    simp only [hst, Bool.false_eq_true, if_false] at hK hG
    have hk := hK [u10, u11, u12, u13, u14, u15, u16, u17, u18, (.pointer (some ⟨wz.heap.size, 0, none⟩))] (wz.alloc (.cells #[.int .i64 0, .slice none 0 0, .slice none 0 0] 29)) ⟨_, _, _, _, _, _, _, _, _, _, (wz.alloc (.cells #[.int .i64 0, .slice none 0 0, .slice none 0 0] 29)), rfl,
      { b := φ.b.alloc φ.b.size _,
        s0 := fun h0 => φ.s0 (by simpa using h0),
        s1 := fun h0 => φ.s1 (by simpa using h0),
        s2 := fun h0 => φ.s2 (by simpa using h0),
        s3 := fun h0 => φ.s3 (by simpa using h0),
        s4 := fun h0 => (φ.s4 (by simpa using h0)).alloc _,
        s5 := fun h0 => φ.s5 (by simpa using h0),
        s6 := fun h0 => φ.s6 (by simpa using h0),
        s7 := fun h0 => (φ.s7 (by simpa using h0)).alloc _,
        s8 := fun h0 => φ.s8 (by simpa using h0),
        x9 := fun _ => ⟨wz.heap.size, rfl, φ.b.size, by simp, heap_alloc_new wz _⟩,
        d4 := fun _ h0 X hX e => by
          obtain rfl : wz.heap.size = X := by simpa using hX
          exact Nat.lt_irrefl _ ((φ.s4 (by simpa using h0)).lt _ e).2,
        d7 := fun _ h0 X hX e => by
          obtain rfl : wz.heap.size = X := by simpa using hX
          exact Nat.lt_irrefl _ ((φ.s7 (by simpa using h0)).lt _ e).2 }, by simp [hst]⟩
    refine hG ?_
    clear hK φ hG
    revert hk
    go_simp
    first | done | exact fun h => h
  case q10 =>
    rintro L vs w' K ⟨u10, u11, u12, u13, u14, u15, u16, u17, u18, u7, wz, rfl, φ, rfl⟩ hL hpre hcl hK G hG
    simp [Region.binds, closedFrom] at hpre hcl
    simp only [hL, Bool.false_eq_true, if_false] at hK hG
    obtain ⟨A3, c3, rfl⟩ := own_shape (φ.s4 (by simp [hpre]))
    obtain ⟨B3, d3, rfl⟩ := own_shape (φ.s7 (by simp [hpre]))
    obtain rfl := φ.s8 (by simp [hpre])
    obtain ⟨X, rfl, x2, x3, x4⟩ := φ.x9 (by simp [hpre])
    obtain ⟨y0, y1, y2, z0, z1, z2⟩ := cells3 x4
    have hk := hK [u10, u11, u12, u13, (.slice A3 n c3), u15, u16, (.slice B3 m d3), (.agg #[.int .i64 g.next, .slice A3 n c3, .slice B3 m d3]), (.pointer (some ⟨X, 0, none⟩))] (((wz.setCell ⟨X, 0, none⟩ (.int .i64 g.next)).setCell ⟨X, 1, none⟩ (.slice A3 n c3)).setCell ⟨X, 2, none⟩ (.slice B3 m d3)) ⟨_, _, _, _, _, _, _, _, _, _, wz, rfl,
      { b := φ.b,
        s0 := fun h0 => φ.s0 (by simpa using h0),
        s1 := fun h0 => φ.s1 (by simpa using h0),
        s2 := fun h0 => φ.s2 (by simpa using h0),
        s3 := fun h0 => φ.s3 (by simpa using h0),
        s4 := fun h0 => φ.s4 (by simpa using h0),
        s5 := fun h0 => φ.s5 (by simpa using h0),
        s6 := fun h0 => φ.s6 (by simpa using h0),
        s7 := fun h0 => φ.s7 (by simpa using h0),
        s8 := fun h0 => φ.s8 (by simpa using h0),
        x9 := fun h0 => φ.x9 (by simpa using h0),
        d4 := fun h0 h1 => φ.d4 (by simpa using h0) (by simpa using h1),
        d7 := fun h0 h1 => φ.d7 (by simpa using h0) (by simpa using h1) }, by simp [laid3]⟩
    refine hG ?_
    clear hK φ hG
    revert hk
    go_simp
    first | done | exact fun h => h
  case hend =>
    rintro vs w' ⟨u10, u11, u12, u13, u14, u15, u16, u17, u18, u7, wz, rfl, φ, rfl⟩ G hG
    have o4 := φ.s4 rfl
    have o7 := φ.s7 rfl
    have b9 := φ.b
    obtain ⟨A3, c3, rfl⟩ := own_shape o4
    obtain ⟨B3, d3, rfl⟩ := own_shape o7
    obtain ⟨X7, rfl, x2, x3, x4⟩ := φ.x9 rfl
    obtain ⟨y0, y1, y2, z0, z1, z2⟩ := cells3 x4
    have ne7 := φ.d4 rfl rfl X7 rfl
    have ne8 := φ.d7 rfl rfl X7 rfl
    clear φ
    have hst : decide (10 < 11) = true := rfl
    simp only [List.size_toArray, List.length_cons, List.length_nil, Nat.zero_add, Nat.reduceAdd, hst, if_true, laid3] at hG
    have CP := copied3 (g := g) (n := n) (m := m) (A := A3) (c := c3) (B := B3) (d := d3) y0 y1 y2 z0 z1 z2 x2 x3 o4 o7 ne7 ne8 b9
    clear hst o4 o7 b9 x2 x3 x4 y0 y1 y2 z0 z1 z2 ne7 ne8
    refine hG ?_
    clear hG
    generalize ((wz.setCell ⟨X7, 0, none⟩ (.int .i64 g.next)).setCell ⟨X7, 1, none⟩ (.slice A3 n c3)).setCell ⟨X7, 2, none⟩ (.slice B3 m d3) = w2 at *
    obtain ⟨x0, x1, x2, f0, f1, f2, lo, hi, own, ownC, ne, neC, b9⟩ := CP
    have qP : w.heap.size + 1 + 1 < X7 := Nat.lt_of_lt_of_le ltR lo
    have loS : w.heap.size + 3 ≤ W0.drew.heap.size := by omega
    replace e0 := (b9.cell (p := ⟨w.heap.size, 0, none⟩) (World.block_lt_of_cell? _ _ e0)).trans e0
    replace e1 := (b9.cell (p := ⟨w.heap.size, 1, none⟩) (World.block_lt_of_cell? _ _ e1)).trans e1
    replace e2 := (b9.cell (p := ⟨w.heap.size, 2, none⟩) (World.block_lt_of_cell? _ _ e2)).trans e2
    replace p0 := (b9.cell (p := ⟨w.heap.size + 1, 0, none⟩) (World.block_lt_of_cell? _ _ p0)).trans p0
    replace p1 := (b9.cell (p := ⟨w.heap.size + 1, 1, none⟩) (World.block_lt_of_cell? _ _ p1)).trans p1
    replace r0 := (b9.cell (p := ⟨w.heap.size + 1 + 1, 0, none⟩) (World.block_lt_of_cell? _ _ r0)).trans r0
    replace r1 := (b9.cell (p := ⟨w.heap.size + 1 + 1, 1, none⟩) (World.block_lt_of_cell? _ _ r1)).trans r1
    replace r2 := (b9.cell (p := ⟨w.heap.size + 1 + 1, 2, none⟩) (World.block_lt_of_cell? _ _ r2)).trans r2
    replace fr0 := (b9.frozen (p := ⟨w.heap.size + 1 + 1, 0, none⟩) ltR).trans fr0
    replace fr1 := (b9.frozen (p := ⟨w.heap.size + 1 + 1, 1, none⟩) ltR).trans fr1
    replace fr2 := (b9.frozen (p := ⟨w.heap.size + 1 + 1, 2, none⟩) ltR).trans fr2
    replace ltB := Nat.lt_of_lt_of_le ltB b9.size
    replace ltP := Nat.lt_of_lt_of_le ltP b9.size
    replace ltR := Nat.lt_of_lt_of_le ltR b9.size
    replace b0 := b0.trans (b9.mono b0.size)
    clear b9 cC cW
    go_wp2_with fail
    refine (cR _ b0).mono ?_
    rintro e w3 ⟨rfl, hb3⟩
    replace e0 := (hb3.cell (p := ⟨w.heap.size, 0, none⟩) (World.block_lt_of_cell? _ _ e0)).trans e0
    replace e1 := (hb3.cell (p := ⟨w.heap.size, 1, none⟩) (World.block_lt_of_cell? _ _ e1)).trans e1
    replace e2 := (hb3.cell (p := ⟨w.heap.size, 2, none⟩) (World.block_lt_of_cell? _ _ e2)).trans e2
    replace p0 := (hb3.cell (p := ⟨w.heap.size + 1, 0, none⟩) (World.block_lt_of_cell? _ _ p0)).trans p0
    replace p1 := (hb3.cell (p := ⟨w.heap.size + 1, 1, none⟩) (World.block_lt_of_cell? _ _ p1)).trans p1
    replace r0 := (hb3.cell (p := ⟨w.heap.size + 1 + 1, 0, none⟩) (World.block_lt_of_cell? _ _ r0)).trans r0
    replace r1 := (hb3.cell (p := ⟨w.heap.size + 1 + 1, 1, none⟩) (World.block_lt_of_cell? _ _ r1)).trans r1
    replace r2 := (hb3.cell (p := ⟨w.heap.size + 1 + 1, 2, none⟩) (World.block_lt_of_cell? _ _ r2)).trans r2
    replace x0 := (hb3.cell (p := ⟨X7, 0, none⟩) (World.block_lt_of_cell? _ _ x0)).trans x0
    replace x1 := (hb3.cell (p := ⟨X7, 1, none⟩) (World.block_lt_of_cell? _ _ x1)).trans x1
    replace x2 := (hb3.cell (p := ⟨X7, 2, none⟩) (World.block_lt_of_cell? _ _ x2)).trans x2
    replace fr0 := (hb3.frozen (p := ⟨w.heap.size + 1 + 1, 0, none⟩) ltR).trans fr0
    replace fr1 := (hb3.frozen (p := ⟨w.heap.size + 1 + 1, 1, none⟩) ltR).trans fr1
    replace fr2 := (hb3.frozen (p := ⟨w.heap.size + 1 + 1, 2, none⟩) ltR).trans fr2
    replace f0 := (hb3.frozen (p := ⟨X7, 0, none⟩) hi).trans f0
    replace f1 := (hb3.frozen (p := ⟨X7, 1, none⟩) hi).trans f1
    replace f2 := (hb3.frozen (p := ⟨X7, 2, none⟩) hi).trans f2
    replace ltB := Nat.lt_of_lt_of_le ltB hb3.size
    replace ltP := Nat.lt_of_lt_of_le ltP hb3.size
    replace ltR := Nat.lt_of_lt_of_le ltR hb3.size
    replace hi := Nat.lt_of_lt_of_le hi hb3.size
    replace own := own_below own hb3
    replace ownC := own_below ownC hb3
    replace b0 := b0.trans (hb3.mono b0.size)
    clear hb3 cR
    have sE := Sl.of_own Pce.enc_len own HN.out
    have sC := Sl.of_own Wrd.enc_len ownC HM.out
    have fA : ∀ a, A3 = some a → w.heap.size + 3 ≤ a.block := own_fresh own loS
    have fB : ∀ a, B3 = some a → w.heap.size + 3 ≤ a.block := own_fresh ownC loS
    clear own ownC
    go_wp2_with fail
    go_region
    go_wp2_with fail
    exact bodyPost_ret (v := .tuple #[.agg #[.int .i64 g.next, .slice A3 n c3, .slice B3 m d3], .int .i64 g.next, .int .i64 1]) (by simp [results, Try.results7, go_sem, r0, r1, r2]) rfl (gaveG_ret HN.out HM.out sE sC fA fB b0)

set_option maxHeartbeats 16000000 in
theorem get_most (A B : Option Addr) (c d n m : Nat) (g : Gtr) (p : Pce) (w : World) (hs : Sl 2 Pce.enc w A g.early) (hc : Sl 1 Wrd.enc w B g.came) (hn : g.early.length = n) (hm : g.came.length = m) (hn1 : n ≤ 1000000) (hm1 : m ≤ 1000000)
    (hr : gRight g = true) (hp : 0 ≤ p.num) (hM : g.next = 1099511627776) :
    Calls Try.prog 7 #[.agg #[.int .i64 g.next, .slice A n c, .slice B m d], .agg #[.int .i64 p.num, .int .u32 p.val]] w (GaveG w g g.next 1) := by
  have b0 : Below w.heap.size w (((w.alloc (.cells #[.int .i64 g.next, .slice A n c, .slice B m d] 29)).alloc (.cells #[.int .i64 p.num, .int .u32 p.val] 34)).alloc (.cells #[.int .i64 0, .slice none 0 0, .slice none 0 0] 29)).drew := ((((Below.refl _ _).alloc (Nat.le_refl _) _).alloc (by simp) _).alloc (by simp <;> omega) _).drew
  have e0 : (((w.alloc (.cells #[.int .i64 g.next, .slice A n c, .slice B m d] 29)).alloc (.cells #[.int .i64 p.num, .int .u32 p.val] 34)).alloc (.cells #[.int .i64 0, .slice none 0 0, .slice none 0 0] 29)).drew.cell? ⟨w.heap.size, 0, none⟩ = some (.int .i64 g.next) := by go_simp
  have e1 : (((w.alloc (.cells #[.int .i64 g.next, .slice A n c, .slice B m d] 29)).alloc (.cells #[.int .i64 p.num, .int .u32 p.val] 34)).alloc (.cells #[.int .i64 0, .slice none 0 0, .slice none 0 0] 29)).drew.cell? ⟨w.heap.size, 1, none⟩ = some (.slice A n c) := by go_simp
  have e2 : (((w.alloc (.cells #[.int .i64 g.next, .slice A n c, .slice B m d] 29)).alloc (.cells #[.int .i64 p.num, .int .u32 p.val] 34)).alloc (.cells #[.int .i64 0, .slice none 0 0, .slice none 0 0] 29)).drew.cell? ⟨w.heap.size, 2, none⟩ = some (.slice B m d) := by go_simp
  have p0 : (((w.alloc (.cells #[.int .i64 g.next, .slice A n c, .slice B m d] 29)).alloc (.cells #[.int .i64 p.num, .int .u32 p.val] 34)).alloc (.cells #[.int .i64 0, .slice none 0 0, .slice none 0 0] 29)).drew.cell? ⟨w.heap.size + 1, 0, none⟩ = some (.int .i64 p.num) := by go_simp
  have p1 : (((w.alloc (.cells #[.int .i64 g.next, .slice A n c, .slice B m d] 29)).alloc (.cells #[.int .i64 p.num, .int .u32 p.val] 34)).alloc (.cells #[.int .i64 0, .slice none 0 0, .slice none 0 0] 29)).drew.cell? ⟨w.heap.size + 1, 1, none⟩ = some (.int .u32 p.val) := by go_simp
  have r0 : (((w.alloc (.cells #[.int .i64 g.next, .slice A n c, .slice B m d] 29)).alloc (.cells #[.int .i64 p.num, .int .u32 p.val] 34)).alloc (.cells #[.int .i64 0, .slice none 0 0, .slice none 0 0] 29)).drew.cell? ⟨w.heap.size + 1 + 1, 0, none⟩ = some (.int .i64 0) := by go_simp
  have r1 : (((w.alloc (.cells #[.int .i64 g.next, .slice A n c, .slice B m d] 29)).alloc (.cells #[.int .i64 p.num, .int .u32 p.val] 34)).alloc (.cells #[.int .i64 0, .slice none 0 0, .slice none 0 0] 29)).drew.cell? ⟨w.heap.size + 1 + 1, 1, none⟩ = some (.slice none 0 0) := by go_simp
  have r2 : (((w.alloc (.cells #[.int .i64 g.next, .slice A n c, .slice B m d] 29)).alloc (.cells #[.int .i64 p.num, .int .u32 p.val] 34)).alloc (.cells #[.int .i64 0, .slice none 0 0, .slice none 0 0] 29)).drew.cell? ⟨w.heap.size + 1 + 1, 2, none⟩ = some (.slice none 0 0) := by go_simp
  have fr0 : (((w.alloc (.cells #[.int .i64 g.next, .slice A n c, .slice B m d] 29)).alloc (.cells #[.int .i64 p.num, .int .u32 p.val] 34)).alloc (.cells #[.int .i64 0, .slice none 0 0, .slice none 0 0] 29)).drew.frozen? ⟨w.heap.size + 1 + 1, 0, none⟩ = false := by go_simp
  have fr1 : (((w.alloc (.cells #[.int .i64 g.next, .slice A n c, .slice B m d] 29)).alloc (.cells #[.int .i64 p.num, .int .u32 p.val] 34)).alloc (.cells #[.int .i64 0, .slice none 0 0, .slice none 0 0] 29)).drew.frozen? ⟨w.heap.size + 1 + 1, 1, none⟩ = false := by go_simp
  have fr2 : (((w.alloc (.cells #[.int .i64 g.next, .slice A n c, .slice B m d] 29)).alloc (.cells #[.int .i64 p.num, .int .u32 p.val] 34)).alloc (.cells #[.int .i64 0, .slice none 0 0, .slice none 0 0] 29)).drew.frozen? ⟨w.heap.size + 1 + 1, 2, none⟩ = false := by go_simp
  have ltB : w.heap.size < (((w.alloc (.cells #[.int .i64 g.next, .slice A n c, .slice B m d] 29)).alloc (.cells #[.int .i64 p.num, .int .u32 p.val] 34)).alloc (.cells #[.int .i64 0, .slice none 0 0, .slice none 0 0] 29)).drew.heap.size := by simp <;> omega
  have ltP : w.heap.size + 1 < (((w.alloc (.cells #[.int .i64 g.next, .slice A n c, .slice B m d] 29)).alloc (.cells #[.int .i64 p.num, .int .u32 p.val] 34)).alloc (.cells #[.int .i64 0, .slice none 0 0, .slice none 0 0] 29)).drew.heap.size := by simp <;> omega
  have ltR : w.heap.size + 1 + 1 < (((w.alloc (.cells #[.int .i64 g.next, .slice A n c, .slice B m d] 29)).alloc (.cells #[.int .i64 p.num, .int .u32 p.val] 34)).alloc (.cells #[.int .i64 0, .slice none 0 0, .slice none 0 0] 29)).drew.heap.size := by simp <;> omega
  have cC := fun w1 (hb : Below (((w.alloc (.cells #[.int .i64 g.next, .slice A n c, .slice B m d] 29)).alloc (.cells #[.int .i64 p.num, .int .u32 p.val] 34)).alloc (.cells #[.int .i64 0, .slice none 0 0, .slice none 0 0] 29)).drew.heap.size (((w.alloc (.cells #[.int .i64 g.next, .slice A n c, .slice B m d] 29)).alloc (.cells #[.int .i64 p.num, .int .u32 p.val] 34)).alloc (.cells #[.int .i64 0, .slice none 0 0, .slice none 0 0] 29)).drew w1) => cloneP_any A c n g.early w1 (hs.below (b0.trans (hb.mono b0.size))) hn hn1
  have cW := fun w1 (hb : Below (((w.alloc (.cells #[.int .i64 g.next, .slice A n c, .slice B m d] 29)).alloc (.cells #[.int .i64 p.num, .int .u32 p.val] 34)).alloc (.cells #[.int .i64 0, .slice none 0 0, .slice none 0 0] 29)).drew.heap.size (((w.alloc (.cells #[.int .i64 g.next, .slice A n c, .slice B m d] 29)).alloc (.cells #[.int .i64 p.num, .int .u32 p.val] 34)).alloc (.cells #[.int .i64 0, .slice none 0 0, .slice none 0 0] 29)).drew w1) => cloneW_any B d m g.came w1 (hc.below (b0.trans (hb.mono b0.size))) hm hm1
  have cR := fun w1 (hb : Below w.heap.size w w1) => gRight_any A B c d n m g w1 (hs.below hb) hn
  rw [hr] at cR
  have zp : decide (p.num < 0) = false := decide_eq_false (by omega)
  have zM : (g.next == 1099511627776) = true := by rw [beq_iff_eq]; exact hM
  clear hr hp hM
  have HN := Lib.hid hn
  have HM := Lib.hid hm
  clear hs hc hn hm
  go_enter Try.func7, Try.ntmps7
  go_wp2_with fail
  generalize (((w.alloc (.cells #[.int .i64 g.next, .slice A n c, .slice B m d] 29)).alloc (.cells #[.int .i64 p.num, .int .u32 p.val] 34)).alloc (.cells #[.int .i64 0, .slice none 0 0, .slice none 0 0] 29)) = W0 at *
  refine wp_region_rg (by kernel_rfl) (by kernel_rfl) [10, 11, 12, 13, 14, 15, 16, 17, 18, 7] (GetRPhi W0.drew w.heap.size A n c B m d g) ?h0 ⟨?q0, ?q1, ?q2, ?q3, ?q4, ?q5, ?q6, ?q7, ?q8, ?q9, ?q10, trivial⟩ ?hend
  case h0 => exact ⟨_, _, _, _, _, _, _, _, _, _, _, rfl, ⟨Below.refl _ _, (fun h => by cases h), (fun h => by cases h), (fun h => by cases h), (fun h => by cases h), (fun h => by cases h), (fun h => by cases h), (fun h => by cases h), (fun h => by cases h), (fun h => by cases h), (fun h => by cases h), (fun h => by cases h), (fun h => by cases h)⟩, rfl⟩
  case q0 =>
    rintro L vs w' K ⟨u10, u11, u12, u13, u14, u15, u16, u17, u18, u7, wz, rfl, φ, rfl⟩ hL hpre hcl hK G hG
    simp [Region.binds, closedFrom] at hpre hcl
    have hst : L 10 = false := by
      cases h : L 10 with
      | false => rfl
      | true => simp [h, hL] at hcl
    simp only [hst, Bool.false_eq_true, if_false] at hK hG
    have hk := hK [(.pointer (some ⟨w.heap.size, 0, none⟩)), u11, u12, u13, u14, u15, u16, u17, u18, u7] wz ⟨_, _, _, _, _, _, _, _, _, _, wz, rfl,
      { b := φ.b,
        s0 := fun _ => rfl,
        s1 := fun h0 => φ.s1 (by simpa using h0),
        s2 := fun h0 => φ.s2 (by simpa using h0),
        s3 := fun h0 => φ.s3 (by simpa using h0),
        s4 := fun h0 => φ.s4 (by simpa using h0),
        s5 := fun h0 => φ.s5 (by simpa using h0),
        s6 := fun h0 => φ.s6 (by simpa using h0),
        s7 := fun h0 => φ.s7 (by simpa using h0),
        s8 := fun h0 => φ.s8 (by simpa using h0),
        x9 := fun h0 => φ.x9 (by simpa using h0),
        d4 := fun h0 h1 => φ.d4 (by simpa using h0) (by simpa using h1),
        d7 := fun h0 h1 => φ.d7 (by simpa using h0) (by simpa using h1) }, by simp [hst]⟩
    refine hG ?_
    clear hK φ hG
    revert hk
    go_simp
    first | done | exact fun h => h
  case q1 =>
    rintro L vs w' K ⟨u10, u11, u12, u13, u14, u15, u16, u17, u18, u7, wz, rfl, φ, rfl⟩ hL hpre hcl hK G hG
    simp [Region.binds, closedFrom] at hpre hcl
    have hst : L 10 = false := by
      cases h : L 10 with
      | false => rfl
      | true => simp [h, hL] at hcl
    simp only [hst, Bool.false_eq_true, if_false] at hK hG
    obtain rfl := φ.s0 (by simp [hpre])
    have ce := (φ.b.cell (p := ⟨w.heap.size, 0, none⟩) ltB).trans e0
    have hk := hK [(.pointer (some ⟨w.heap.size, 0, none⟩)), (.int .i64 g.next), u12, u13, u14, u15, u16, u17, u18, u7] wz ⟨_, _, _, _, _, _, _, _, _, _, wz, rfl,
      { b := φ.b,
        s0 := fun h0 => φ.s0 (by simpa using h0),
        s1 := fun _ => rfl,
        s2 := fun h0 => φ.s2 (by simpa using h0),
        s3 := fun h0 => φ.s3 (by simpa using h0),
        s4 := fun h0 => φ.s4 (by simpa using h0),
        s5 := fun h0 => φ.s5 (by simpa using h0),
        s6 := fun h0 => φ.s6 (by simpa using h0),
        s7 := fun h0 => φ.s7 (by simpa using h0),
        s8 := fun h0 => φ.s8 (by simpa using h0),
        x9 := fun h0 => φ.x9 (by simpa using h0),
        d4 := fun h0 h1 => φ.d4 (by simpa using h0) (by simpa using h1),
        d7 := fun h0 h1 => φ.d7 (by simpa using h0) (by simpa using h1) }, by simp [hst]⟩
    refine hG ?_
    clear hK φ hG
    revert hk
    go_simp
    first | done | exact fun h => h
  case q2 =>
    rintro L vs w' K ⟨u10, u11, u12, u13, u14, u15, u16, u17, u18, u7, wz, rfl, φ, rfl⟩ hL hpre hcl hK G hG
    simp [Region.binds, closedFrom] at hpre hcl
    have hst : L 10 = false := by
      cases h : L 10 with
      | false => rfl
      | true => simp [h, hL] at hcl
    simp only [hst, Bool.false_eq_true, if_false] at hK hG
    have hk := hK [u10, u11, (.pointer (some ⟨w.heap.size, 1, none⟩)), u13, u14, u15, u16, u17, u18, u7] wz ⟨_, _, _, _, _, _, _, _, _, _, wz, rfl,
      { b := φ.b,
        s0 := fun h0 => φ.s0 (by simpa using h0),
        s1 := fun h0 => φ.s1 (by simpa using h0),
        s2 := fun _ => rfl,
        s3 := fun h0 => φ.s3 (by simpa using h0),
        s4 := fun h0 => φ.s4 (by simpa using h0),
        s5 := fun h0 => φ.s5 (by simpa using h0),
        s6 := fun h0 => φ.s6 (by simpa using h0),
        s7 := fun h0 => φ.s7 (by simpa using h0),
        s8 := fun h0 => φ.s8 (by simpa using h0),
        x9 := fun h0 => φ.x9 (by simpa using h0),
        d4 := fun h0 h1 => φ.d4 (by simpa using h0) (by simpa using h1),
        d7 := fun h0 h1 => φ.d7 (by simpa using h0) (by simpa using h1) }, by simp [hst]⟩
    refine hG ?_
    clear hK φ hG
    revert hk
    go_simp
    first | done | exact fun h => h
  case q3 =>
    rintro L vs w' K ⟨u10, u11, u12, u13, u14, u15, u16, u17, u18, u7, wz, rfl, φ, rfl⟩ hL hpre hcl hK G hG
    simp [Region.binds, closedFrom] at hpre hcl
    have hst : L 10 = false := by
      cases h : L 10 with
      | false => rfl
      | true => simp [h, hL] at hcl
    simp only [hst, Bool.false_eq_true, if_false] at hK hG
    obtain rfl := φ.s2 (by simp [hpre])
    have ce := (φ.b.cell (p := ⟨w.heap.size, 1, none⟩) ltB).trans e1
    have hk := hK [u10, u11, (.pointer (some ⟨w.heap.size, 1, none⟩)), (.slice A n c), u14, u15, u16, u17, u18, u7] wz ⟨_, _, _, _, _, _, _, _, _, _, wz, rfl,
      { b := φ.b,
        s0 := fun h0 => φ.s0 (by simpa using h0),
        s1 := fun h0 => φ.s1 (by simpa using h0),
        s2 := fun h0 => φ.s2 (by simpa using h0),
        s3 := fun _ => rfl,
        s4 := fun h0 => φ.s4 (by simpa using h0),
        s5 := fun h0 => φ.s5 (by simpa using h0),
        s6 := fun h0 => φ.s6 (by simpa using h0),
        s7 := fun h0 => φ.s7 (by simpa using h0),
        s8 := fun h0 => φ.s8 (by simpa using h0),
        x9 := fun h0 => φ.x9 (by simpa using h0),
        d4 := fun h0 h1 => φ.d4 (by simpa using h0) (by simpa using h1),
        d7 := fun h0 h1 => φ.d7 (by simpa using h0) (by simpa using h1) }, by simp [hst]⟩
    refine hG ?_
    clear hK φ hG
    revert hk
    go_simp
    first | done | exact fun h => h
  case q4 =>
    rintro L vs w' K ⟨u10, u11, u12, u13, u14, u15, u16, u17, u18, u7, wz, rfl, φ, rfl⟩ hL hpre hcl hK G hG
    simp [Region.binds, closedFrom] at hpre hcl
    have hst : L 10 = false := by
      cases h : L 10 with
      | false => rfl
      | true => simp [h, hL] at hcl
    simp only [hst, Bool.false_eq_true, if_false] at hK hG
    obtain rfl := φ.s3 (by simp [hpre])
    have L8 : L 8 = false := by
      cases h : L 8 with
      | false => rfl
      | true => simp [h, hL] at hcl
    refine hG (step_call wz rfl 13 #[.tmp 13] #[25] rfl #[.slice A n c] (by simp [Act.eval, Act.puts, Act.put]) (enters_of Try.func13 (by kernel_rfl) rfl) (cC wz φ.b) ?_)
    rintro e w9 ⟨v', rfl, ownN, hb9⟩
    refine ⟨v', rfl, ?_⟩
    have hk := hK [u10, u11, u12, (.slice A n c), (v'), u15, u16, u17, u18, u7] w9 ⟨_, _, _, _, _, _, _, _, _, _, w9, rfl,
      { b := φ.b.trans (hb9.mono φ.b.size),
        s0 := fun h0 => φ.s0 (by simpa using h0),
        s1 := fun h0 => φ.s1 (by simpa using h0),
        s2 := fun h0 => φ.s2 (by simpa using h0),
        s3 := fun h0 => φ.s3 (by simpa using h0),
        s4 := fun _ => own_weaken' ownN φ.b.size,
        s5 := fun h0 => φ.s5 (by simpa using h0),
        s6 := fun h0 => φ.s6 (by simpa using h0),
        s7 := fun h => own_below (φ.s7 (by simpa using h)) hb9,
        s8 := fun h => by simp [L8] at h,
        x9 := fun h => by
          obtain ⟨X, y1, y2, y3, y4⟩ := φ.x9 (by simpa using h)
          exact ⟨X, y1, y2, Nat.lt_of_lt_of_le y3 hb9.size, (hb9.block X y3).trans y4⟩,
        d4 := fun h _ X hX hE => by
          obtain ⟨X', y1, y2, y3, _⟩ := φ.x9 (by simpa using h)
          rw [hX] at y1
          obtain rfl : X = X' := by simpa using y1
          have := (ownN.lt _ hE).1
          omega,
        d7 := fun h0 h1 => φ.d7 (by simpa using h0) (by simpa using h1) }, by simp [hst]⟩
    clear hK φ hG
    revert hk
    go_simp
    first | done | exact fun h => h
  case q5 =>
    rintro L vs w' K ⟨u10, u11, u12, u13, u14, u15, u16, u17, u18, u7, wz, rfl, φ, rfl⟩ hL hpre hcl hK G hG
    simp [Region.binds, closedFrom] at hpre hcl
    have hst : L 10 = false := by
      cases h : L 10 with
      | false => rfl
      | true => simp [h, hL] at hcl
    simp only [hst, Bool.false_eq_true, if_false] at hK hG
    have hk := hK [u10, u11, u12, u13, u14, (.pointer (some ⟨w.heap.size, 2, none⟩)), u16, u17, u18, u7] wz ⟨_, _, _, _, _, _, _, _, _, _, wz, rfl,
      { b := φ.b,
        s0 := fun h0 => φ.s0 (by simpa using h0),
        s1 := fun h0 => φ.s1 (by simpa using h0),
        s2 := fun h0 => φ.s2 (by simpa using h0),
        s3 := fun h0 => φ.s3 (by simpa using h0),
        s4 := fun h0 => φ.s4 (by simpa using h0),
        s5 := fun _ => rfl,
        s6 := fun h0 => φ.s6 (by simpa using h0),
        s7 := fun h0 => φ.s7 (by simpa using h0),
        s8 := fun h0 => φ.s8 (by simpa using h0),
        x9 := fun h0 => φ.x9 (by simpa using h0),
        d4 := fun h0 h1 => φ.d4 (by simpa using h0) (by simpa using h1),
        d7 := fun h0 h1 => φ.d7 (by simpa using h0) (by simpa using h1) }, by simp [hst]⟩
    refine hG ?_
    clear hK φ hG
    revert hk
    go_simp
    first | done | exact fun h => h
  case q6 =>
    rintro L vs w' K ⟨u10, u11, u12, u13, u14, u15, u16, u17, u18, u7, wz, rfl, φ, rfl⟩ hL hpre hcl hK G hG
    simp [Region.binds, closedFrom] at hpre hcl
    have hst : L 10 = false := by
      cases h : L 10 with
      | false => rfl
      | true => simp [h, hL] at hcl
    simp only [hst, Bool.false_eq_true, if_false] at hK hG
    obtain rfl := φ.s5 (by simp [hpre])
    have ce := (φ.b.cell (p := ⟨w.heap.size, 2, none⟩) ltB).trans e2
    have hk := hK [u10, u11, u12, u13, u14, (.pointer (some ⟨w.heap.size, 2, none⟩)), (.slice B m d), u17, u18, u7] wz ⟨_, _, _, _, _, _, _, _, _, _, wz, rfl,
      { b := φ.b,
        s0 := fun h0 => φ.s0 (by simpa using h0),
        s1 := fun h0 => φ.s1 (by simpa using h0),
        s2 := fun h0 => φ.s2 (by simpa using h0),
        s3 := fun h0 => φ.s3 (by simpa using h0),
        s4 := fun h0 => φ.s4 (by simpa using h0),
        s5 := fun h0 => φ.s5 (by simpa using h0),
        s6 := fun _ => rfl,
        s7 := fun h0 => φ.s7 (by simpa using h0),
        s8 := fun h0 => φ.s8 (by simpa using h0),
        x9 := fun h0 => φ.x9 (by simpa using h0),
        d4 := fun h0 h1 => φ.d4 (by simpa using h0) (by simpa using h1),
        d7 := fun h0 h1 => φ.d7 (by simpa using h0) (by simpa using h1) }, by simp [hst]⟩
    refine hG ?_
    clear hK φ hG
    revert hk
    go_simp
    first | done | exact fun h => h
  case q7 =>
    rintro L vs w' K ⟨u10, u11, u12, u13, u14, u15, u16, u17, u18, u7, wz, rfl, φ, rfl⟩ hL hpre hcl hK G hG
    simp [Region.binds, closedFrom] at hpre hcl
    have hst : L 10 = false := by
      cases h : L 10 with
      | false => rfl
      | true => simp [h, hL] at hcl
    simp only [hst, Bool.false_eq_true, if_false] at hK hG
    obtain rfl := φ.s6 (by simp [hpre])
    have L8 : L 8 = false := by
      cases h : L 8 with
      | false => rfl
      | true => simp [h, hL] at hcl
    refine hG (step_call wz rfl 14 #[.tmp 16] #[22] rfl #[.slice B m d] (by simp [Act.eval, Act.puts, Act.put]) (enters_of Try.func14 (by kernel_rfl) rfl) (cW wz φ.b) ?_)
    rintro e w9 ⟨v', rfl, ownN, hb9⟩
    refine ⟨v', rfl, ?_⟩
    have hk := hK [u10, u11, u12, u13, u14, u15, (.slice B m d), (v'), u18, u7] w9 ⟨_, _, _, _, _, _, _, _, _, _, w9, rfl,
      { b := φ.b.trans (hb9.mono φ.b.size),
        s0 := fun h0 => φ.s0 (by simpa using h0),
        s1 := fun h0 => φ.s1 (by simpa using h0),
        s2 := fun h0 => φ.s2 (by simpa using h0),
        s3 := fun h0 => φ.s3 (by simpa using h0),
        s4 := fun h => own_below (φ.s4 (by simpa using h)) hb9,
        s5 := fun h0 => φ.s5 (by simpa using h0),
        s6 := fun h0 => φ.s6 (by simpa using h0),
        s7 := fun _ => own_weaken' ownN φ.b.size,
        s8 := fun h => by simp [L8] at h,
        x9 := fun h => by
          obtain ⟨X, y1, y2, y3, y4⟩ := φ.x9 (by simpa using h)
          exact ⟨X, y1, y2, Nat.lt_of_lt_of_le y3 hb9.size, (hb9.block X y3).trans y4⟩,
        d4 := fun h0 h1 => φ.d4 (by simpa using h0) (by simpa using h1),
        d7 := fun h _ X hX hE => by
          obtain ⟨X', y1, y2, y3, _⟩ := φ.x9 (by simpa using h)
          rw [hX] at y1
          obtain rfl : X = X' := by simpa using y1
          have := (ownN.lt _ hE).1
          omega }, by simp [hst]⟩
    clear hK φ hG
    revert hk
    go_simp
    first | done | exact fun h => h
  case q8 =>
    rintro L vs w' K ⟨u10, u11, u12, u13, u14, u15, u16, u17, u18, u7, wz, rfl, φ, rfl⟩ hL hpre hcl hK G hG
    simp [Region.binds, closedFrom] at hpre hcl
    have hst : L 10 = false := by
      cases h : L 10 with
      | false => rfl
      | true => simp [h, hL] at hcl
    simp only [hst, Bool.false_eq_true, if_false] at hK hG
    obtain rfl := φ.s1 (by simp [hpre])
    obtain ⟨A3, c3, rfl⟩ := own_shape (φ.s4 (by simp [hpre]))
    obtain ⟨B3, d3, rfl⟩ := own_shape (φ.s7 (by simp [hpre]))
    have hk := hK [u10, (.int .i64 g.next), u12, u13, (.slice A3 n c3), u15, u16, (.slice B3 m d3), (.agg #[.int .i64 g.next, .slice A3 n c3, .slice B3 m d3]), u7] wz ⟨_, _, _, _, _, _, _, _, _, _, wz, rfl,
      { b := φ.b,
        s0 := fun h0 => φ.s0 (by simpa using h0),
        s1 := fun h0 => φ.s1 (by simpa using h0),
        s2 := fun h0 => φ.s2 (by simpa using h0),
        s3 := fun h0 => φ.s3 (by simpa using h0),
        s4 := fun h0 => φ.s4 (by simpa using h0),
        s5 := fun h0 => φ.s5 (by simpa using h0),
        s6 := fun h0 => φ.s6 (by simpa using h0),
        s7 := fun h0 => φ.s7 (by simpa using h0),
        s8 := fun _ => rfl,
        x9 := fun h0 => φ.x9 (by simpa using h0),
        d4 := fun h0 h1 => φ.d4 (by simpa using h0) (by simpa using h1),
        d7 := fun h0 h1 => φ.d7 (by simpa using h0) (by simpa using h1) }, by simp [hst]⟩
    refine hG ?_
    clear hK φ hG
    revert hk
    go_simp
    first | done | exact fun h => h
  case q9 =>
    rintro L vs w' K ⟨u10, u11, u12, u13, u14, u15, u16, u17, u18, u7, wz, rfl, φ, rfl⟩ hL hpre hcl hK G hG
    simp [Region.binds, closedFrom] at hpre hcl
    have hst : L 10 = false := by
      cases h : L 10 with
      | false => rfl
      | true => simp [h, hL] at hcl
    simp only [hst, Bool.false_eq_true, if_false] at hK hG
    have hk := hK [u10, u11, u12, u13, u14, u15, u16, u17, u18, (.pointer (some ⟨wz.heap.size, 0, none⟩))] (wz.alloc (.cells #[.int .i64 0, .slice none 0 0, .slice none 0 0] 29)) ⟨_, _, _, _, _, _, _, _, _, _, (wz.alloc (.cells #[.int .i64 0, .slice none 0 0, .slice none 0 0] 29)), rfl,
      { b := φ.b.alloc φ.b.size _,
        s0 := fun h0 => φ.s0 (by simpa using h0),
        s1 := fun h0 => φ.s1 (by simpa using h0),
        s2 := fun h0 => φ.s2 (by simpa using h0),
        s3 := fun h0 => φ.s3 (by simpa using h0),
        s4 := fun h0 => (φ.s4 (by simpa using h0)).alloc _,
        s5 := fun h0 => φ.s5 (by simpa using h0),
        s6 := fun h0 => φ.s6 (by simpa using h0),
        s7 := fun h0 => (φ.s7 (by simpa using h0)).alloc _,
        s8 := fun h0 => φ.s8 (by simpa using h0),
        x9 := fun _ => ⟨wz.heap.size, rfl, φ.b.size, by simp, heap_alloc_new wz _⟩,
        d4 := fun _ h0 X hX e => by
          obtain rfl : wz.heap.size = X := by simpa using hX
          exact Nat.lt_irrefl _ ((φ.s4 (by simpa using h0)).lt _ e).2,
        d7 := fun _ h0 X hX e => by
          obtain rfl : wz.heap.size = X := by simpa using hX
          exact Nat.lt_irrefl _ ((φ.s7 (by simpa using h0)).lt _ e).2 }, by simp [hst]⟩
    refine hG ?_
    clear hK φ hG
    revert hk
    go_simp
    first | done | exact fun h => h
  case q10 =>
    rintro L vs w' K ⟨u10, u11, u12, u13, u14, u15, u16, u17, u18, u7, wz, rfl, φ, rfl⟩ hL hpre hcl hK G hG
    simp [Region.binds, closedFrom] at hpre hcl
    simp only [hL, Bool.false_eq_true, if_false] at hK hG
    obtain ⟨A3, c3, rfl⟩ := own_shape (φ.s4 (by simp [hpre]))
    obtain ⟨B3, d3, rfl⟩ := own_shape (φ.s7 (by simp [hpre]))
    obtain rfl := φ.s8 (by simp [hpre])
    obtain ⟨X, rfl, x2, x3, x4⟩ := φ.x9 (by simp [hpre])
    obtain ⟨y0, y1, y2, z0, z1, z2⟩ := cells3 x4
    have hk := hK [u10, u11, u12, u13, (.slice A3 n c3), u15, u16, (.slice B3 m d3), (.agg #[.int .i64 g.next, .slice A3 n c3, .slice B3 m d3]), (.pointer (some ⟨X, 0, none⟩))] (((wz.setCell ⟨X, 0, none⟩ (.int .i64 g.next)).setCell ⟨X, 1, none⟩ (.slice A3 n c3)).setCell ⟨X, 2, none⟩ (.slice B3 m d3)) ⟨_, _, _, _, _, _, _, _, _, _, wz, rfl,
      { b := φ.b,
        s0 := fun h0 => φ.s0 (by simpa using h0),
        s1 := fun h0 => φ.s1 (by simpa using h0),
        s2 := fun h0 => φ.s2 (by simpa using h0),
        s3 := fun h0 => φ.s3 (by simpa using h0),
        s4 := fun h0 => φ.s4 (by simpa using h0),
        s5 := fun h0 => φ.s5 (by simpa using h0),
        s6 := fun h0 => φ.s6 (by simpa using h0),
        s7 := fun h0 => φ.s7 (by simpa using h0),
        s8 := fun h0 => φ.s8 (by simpa using h0),
        x9 := fun h0 => φ.x9 (by simpa using h0),
        d4 := fun h0 h1 => φ.d4 (by simpa using h0) (by simpa using h1),
        d7 := fun h0 h1 => φ.d7 (by simpa using h0) (by simpa using h1) }, by simp [laid3]⟩
    refine hG ?_
    clear hK φ hG
    revert hk
    go_simp
    first | done | exact fun h => h
  case hend =>
    rintro vs w' ⟨u10, u11, u12, u13, u14, u15, u16, u17, u18, u7, wz, rfl, φ, rfl⟩ G hG
    have o4 := φ.s4 rfl
    have o7 := φ.s7 rfl
    have b9 := φ.b
    obtain ⟨A3, c3, rfl⟩ := own_shape o4
    obtain ⟨B3, d3, rfl⟩ := own_shape o7
    obtain ⟨X7, rfl, x2, x3, x4⟩ := φ.x9 rfl
    obtain ⟨y0, y1, y2, z0, z1, z2⟩ := cells3 x4
    have ne7 := φ.d4 rfl rfl X7 rfl
    have ne8 := φ.d7 rfl rfl X7 rfl
    clear φ
    have hst : decide (10 < 11) = true := rfl
    simp only [List.size_toArray, List.length_cons, List.length_nil, Nat.zero_add, Nat.reduceAdd, hst, if_true, laid3] at hG
    have CP := copied3 (g := g) (n := n) (m := m) (A := A3) (c := c3) (B := B3) (d := d3) y0 y1 y2 z0 z1 z2 x2 x3 o4 o7 ne7 ne8 b9
    clear hst o4 o7 b9 x2 x3 x4 y0 y1 y2 z0 z1 z2 ne7 ne8
    refine hG ?_
    clear hG
    generalize ((wz.setCell ⟨X7, 0, none⟩ (.int .i64 g.next)).setCell ⟨X7, 1, none⟩ (.slice A3 n c3)).setCell ⟨X7, 2, none⟩ (.slice B3 m d3) = w2 at *
    obtain ⟨x0, x1, x2, f0, f1, f2, lo, hi, own, ownC, ne, neC, b9⟩ := CP
    have qP : w.heap.size + 1 + 1 < X7 := Nat.lt_of_lt_of_le ltR lo
    have loS : w.heap.size + 3 ≤ W0.drew.heap.size := by omega
    replace e0 := (b9.cell (p := ⟨w.heap.size, 0, none⟩) (World.block_lt_of_cell? _ _ e0)).trans e0
    replace e1 := (b9.cell (p := ⟨w.heap.size, 1, none⟩) (World.block_lt_of_cell? _ _ e1)).trans e1
    replace e2 := (b9.cell (p := ⟨w.heap.size, 2, none⟩) (World.block_lt_of_cell? _ _ e2)).trans e2
    replace p0 := (b9.cell (p := ⟨w.heap.size + 1, 0, none⟩) (World.block_lt_of_cell? _ _ p0)).trans p0
    replace p1 := (b9.cell (p := ⟨w.heap.size + 1, 1, none⟩) (World.block_lt_of_cell? _ _ p1)).trans p1
    replace r0 := (b9.cell (p := ⟨w.heap.size + 1 + 1, 0, none⟩) (World.block_lt_of_cell? _ _ r0)).trans r0
    replace r1 := (b9.cell (p := ⟨w.heap.size + 1 + 1, 1, none⟩) (World.block_lt_of_cell? _ _ r1)).trans r1
    replace r2 := (b9.cell (p := ⟨w.heap.size + 1 + 1, 2, none⟩) (World.block_lt_of_cell? _ _ r2)).trans r2
    replace fr0 := (b9.frozen (p := ⟨w.heap.size + 1 + 1, 0, none⟩) ltR).trans fr0
    replace fr1 := (b9.frozen (p := ⟨w.heap.size + 1 + 1, 1, none⟩) ltR).trans fr1
    replace fr2 := (b9.frozen (p := ⟨w.heap.size + 1 + 1, 2, none⟩) ltR).trans fr2
    replace ltB := Nat.lt_of_lt_of_le ltB b9.size
    replace ltP := Nat.lt_of_lt_of_le ltP b9.size
    replace ltR := Nat.lt_of_lt_of_le ltR b9.size
    replace b0 := b0.trans (b9.mono b0.size)
    clear b9 cC cW
    go_wp2_with fail
    refine (cR _ b0).mono ?_
    rintro e w3 ⟨rfl, hb3⟩
    replace e0 := (hb3.cell (p := ⟨w.heap.size, 0, none⟩) (World.block_lt_of_cell? _ _ e0)).trans e0
    replace e1 := (hb3.cell (p := ⟨w.heap.size, 1, none⟩) (World.block_lt_of_cell? _ _ e1)).trans e1
    replace e2 := (hb3.cell (p := ⟨w.heap.size, 2, none⟩) (World.block_lt_of_cell? _ _ e2)).trans e2
    replace p0 := (hb3.cell (p := ⟨w.heap.size + 1, 0, none⟩) (World.block_lt_of_cell? _ _ p0)).trans p0
    replace p1 := (hb3.cell (p := ⟨w.heap.size + 1, 1, none⟩) (World.block_lt_of_cell? _ _ p1)).trans p1
    replace r0 := (hb3.cell (p := ⟨w.heap.size + 1 + 1, 0, none⟩) (World.block_lt_of_cell? _ _ r0)).trans r0
    replace r1 := (hb3.cell (p := ⟨w.heap.size + 1 + 1, 1, none⟩) (World.block_lt_of_cell? _ _ r1)).trans r1
    replace r2 := (hb3.cell (p := ⟨w.heap.size + 1 + 1, 2, none⟩) (World.block_lt_of_cell? _ _ r2)).trans r2
    replace x0 := (hb3.cell (p := ⟨X7, 0, none⟩) (World.block_lt_of_cell? _ _ x0)).trans x0
    replace x1 := (hb3.cell (p := ⟨X7, 1, none⟩) (World.block_lt_of_cell? _ _ x1)).trans x1
    replace x2 := (hb3.cell (p := ⟨X7, 2, none⟩) (World.block_lt_of_cell? _ _ x2)).trans x2
    replace fr0 := (hb3.frozen (p := ⟨w.heap.size + 1 + 1, 0, none⟩) ltR).trans fr0
    replace fr1 := (hb3.frozen (p := ⟨w.heap.size + 1 + 1, 1, none⟩) ltR).trans fr1
    replace fr2 := (hb3.frozen (p := ⟨w.heap.size + 1 + 1, 2, none⟩) ltR).trans fr2
    replace f0 := (hb3.frozen (p := ⟨X7, 0, none⟩) hi).trans f0
    replace f1 := (hb3.frozen (p := ⟨X7, 1, none⟩) hi).trans f1
    replace f2 := (hb3.frozen (p := ⟨X7, 2, none⟩) hi).trans f2
    replace ltB := Nat.lt_of_lt_of_le ltB hb3.size
    replace ltP := Nat.lt_of_lt_of_le ltP hb3.size
    replace ltR := Nat.lt_of_lt_of_le ltR hb3.size
    replace hi := Nat.lt_of_lt_of_le hi hb3.size
    replace own := own_below own hb3
    replace ownC := own_below ownC hb3
    replace b0 := b0.trans (hb3.mono b0.size)
    clear hb3 cR
    have sE := Sl.of_own Pce.enc_len own HN.out
    have sC := Sl.of_own Wrd.enc_len ownC HM.out
    have fA : ∀ a, A3 = some a → w.heap.size + 3 ≤ a.block := own_fresh own loS
    have fB : ∀ a, B3 = some a → w.heap.size + 3 ≤ a.block := own_fresh ownC loS
    clear own ownC
    go_wp2_with fail
    go_region
    go_wp2_with fail
    exact bodyPost_ret (v := .tuple #[.agg #[.int .i64 g.next, .slice A3 n c3, .slice B3 m d3], .int .i64 g.next, .int .i64 1]) (by simp [results, Try.results7, go_sem, r0, r1, r2]) rfl (gaveG_ret HN.out HM.out sE sC fA fB b0)

theorem gRight_facts {g : Gtr} (h : gRight g = true) : 0 ≤ g.next ∧ g.next ≤ 1099511627776 ∧ g.early.length ≤ 16 ∧ (∀ x ∈ g.early, 0 ≤ x.num) ∧ (∀ x ∈ g.early, x.num ≤ 2000000000000) ∧ ∀ i j, i < j → j < g.early.length → g.early[i]!.num < g.early[j]!.num := by
  simp only [gRight, decide_eq_true_eq] at h
  obtain ⟨h1, h2, h3, h4⟩ := h
  have hlow : ∀ j, j < g.early.length → g.next < g.early[j]!.num ∧ g.early[j]!.num < g.next + 16 := by
    intro j
    induction j with
    | zero => intro hj; exact h4 0 hj
    | succ j ih =>
      intro hj
      have a := ih (by omega)
      have b := h4 (j + 1) hj
      simp only [gLast, Nat.add_one_ne_zero, if_false, Nat.add_sub_cancel] at b
      exact ⟨by omega, b.2⟩
  have hmem : ∀ x ∈ g.early, g.next < x.num ∧ x.num < g.next + 16 := fun x hx => by
    obtain ⟨j, hj, rfl⟩ := List.getElem_of_mem hx
    have := hlow j hj
    rwa [getElem!_pos g.early j hj] at this
  have hstep : ∀ i, i + 1 < g.early.length → g.early[i]!.num < g.early[i + 1]!.num := fun i hi => by
    have b := h4 (i + 1) hi
    simpa only [gLast, Nat.add_one_ne_zero, if_false, Nat.add_sub_cancel] using b.1
  refine ⟨h1, h2, h3, fun x hx => by have := hmem x hx; omega, fun x hx => by have := hmem x hx; omega, fun i j hij hj => ?_⟩
  obtain ⟨k, rfl⟩ : ∃ k, j = i + 1 + k := ⟨j - (i + 1), by omega⟩
  clear hij
  induction k with
  | zero => exact hstep i hj
  | succ k ih =>
    have a := ih (by omega)
    have b := hstep (i + 1 + k) (by omega)
    exact Int.lt_trans a b

set_option maxHeartbeats 16000000 in
theorem get_low (A B : Option Addr) (c d n m : Nat) (g : Gtr) (p : Pce) (w : World) (hs : Sl 2 Pce.enc w A g.early) (hc : Sl 1 Wrd.enc w B g.came) (hn : g.early.length = n) (hm : g.came.length = m) (hn1 : n ≤ 1000000) (hm1 : m ≤ 1000000)
    (hr : gRight g = true) (hp : 0 ≤ p.num) (hp9 : p.num ≤ 9223372036854775807) (hM : g.next ≠ 1099511627776) (hl : p.num < g.next) :
    Calls Try.prog 7 #[.agg #[.int .i64 g.next, .slice A n c, .slice B m d], .agg #[.int .i64 p.num, .int .u32 p.val]] w (GaveG w g g.next 0) := by
  have b0 : Below w.heap.size w (((w.alloc (.cells #[.int .i64 g.next, .slice A n c, .slice B m d] 29)).alloc (.cells #[.int .i64 p.num, .int .u32 p.val] 34)).alloc (.cells #[.int .i64 0, .slice none 0 0, .slice none 0 0] 29)).drew := ((((Below.refl _ _).alloc (Nat.le_refl _) _).alloc (by simp) _).alloc (by simp <;> omega) _).drew
  have e0 : (((w.alloc (.cells #[.int .i64 g.next, .slice A n c, .slice B m d] 29)).alloc (.cells #[.int .i64 p.num, .int .u32 p.val] 34)).alloc (.cells #[.int .i64 0, .slice none 0 0, .slice none 0 0] 29)).drew.cell? ⟨w.heap.size, 0, none⟩ = some (.int .i64 g.next) := by go_simp
  have e1 : (((w.alloc (.cells #[.int .i64 g.next, .slice A n c, .slice B m d] 29)).alloc (.cells #[.int .i64 p.num, .int .u32 p.val] 34)).alloc (.cells #[.int .i64 0, .slice none 0 0, .slice none 0 0] 29)).drew.cell? ⟨w.heap.size, 1, none⟩ = some (.slice A n c) := by go_simp
  have e2 : (((w.alloc (.cells #[.int .i64 g.next, .slice A n c, .slice B m d] 29)).alloc (.cells #[.int .i64 p.num, .int .u32 p.val] 34)).alloc (.cells #[.int .i64 0, .slice none 0 0, .slice none 0 0] 29)).drew.cell? ⟨w.heap.size, 2, none⟩ = some (.slice B m d) := by go_simp
  have p0 : (((w.alloc (.cells #[.int .i64 g.next, .slice A n c, .slice B m d] 29)).alloc (.cells #[.int .i64 p.num, .int .u32 p.val] 34)).alloc (.cells #[.int .i64 0, .slice none 0 0, .slice none 0 0] 29)).drew.cell? ⟨w.heap.size + 1, 0, none⟩ = some (.int .i64 p.num) := by go_simp
  have p1 : (((w.alloc (.cells #[.int .i64 g.next, .slice A n c, .slice B m d] 29)).alloc (.cells #[.int .i64 p.num, .int .u32 p.val] 34)).alloc (.cells #[.int .i64 0, .slice none 0 0, .slice none 0 0] 29)).drew.cell? ⟨w.heap.size + 1, 1, none⟩ = some (.int .u32 p.val) := by go_simp
  have r0 : (((w.alloc (.cells #[.int .i64 g.next, .slice A n c, .slice B m d] 29)).alloc (.cells #[.int .i64 p.num, .int .u32 p.val] 34)).alloc (.cells #[.int .i64 0, .slice none 0 0, .slice none 0 0] 29)).drew.cell? ⟨w.heap.size + 1 + 1, 0, none⟩ = some (.int .i64 0) := by go_simp
  have r1 : (((w.alloc (.cells #[.int .i64 g.next, .slice A n c, .slice B m d] 29)).alloc (.cells #[.int .i64 p.num, .int .u32 p.val] 34)).alloc (.cells #[.int .i64 0, .slice none 0 0, .slice none 0 0] 29)).drew.cell? ⟨w.heap.size + 1 + 1, 1, none⟩ = some (.slice none 0 0) := by go_simp
  have r2 : (((w.alloc (.cells #[.int .i64 g.next, .slice A n c, .slice B m d] 29)).alloc (.cells #[.int .i64 p.num, .int .u32 p.val] 34)).alloc (.cells #[.int .i64 0, .slice none 0 0, .slice none 0 0] 29)).drew.cell? ⟨w.heap.size + 1 + 1, 2, none⟩ = some (.slice none 0 0) := by go_simp
  have fr0 : (((w.alloc (.cells #[.int .i64 g.next, .slice A n c, .slice B m d] 29)).alloc (.cells #[.int .i64 p.num, .int .u32 p.val] 34)).alloc (.cells #[.int .i64 0, .slice none 0 0, .slice none 0 0] 29)).drew.frozen? ⟨w.heap.size + 1 + 1, 0, none⟩ = false := by go_simp
  have fr1 : (((w.alloc (.cells #[.int .i64 g.next, .slice A n c, .slice B m d] 29)).alloc (.cells #[.int .i64 p.num, .int .u32 p.val] 34)).alloc (.cells #[.int .i64 0, .slice none 0 0, .slice none 0 0] 29)).drew.frozen? ⟨w.heap.size + 1 + 1, 1, none⟩ = false := by go_simp
  have fr2 : (((w.alloc (.cells #[.int .i64 g.next, .slice A n c, .slice B m d] 29)).alloc (.cells #[.int .i64 p.num, .int .u32 p.val] 34)).alloc (.cells #[.int .i64 0, .slice none 0 0, .slice none 0 0] 29)).drew.frozen? ⟨w.heap.size + 1 + 1, 2, none⟩ = false := by go_simp
  have ltB : w.heap.size < (((w.alloc (.cells #[.int .i64 g.next, .slice A n c, .slice B m d] 29)).alloc (.cells #[.int .i64 p.num, .int .u32 p.val] 34)).alloc (.cells #[.int .i64 0, .slice none 0 0, .slice none 0 0] 29)).drew.heap.size := by simp <;> omega
  have ltP : w.heap.size + 1 < (((w.alloc (.cells #[.int .i64 g.next, .slice A n c, .slice B m d] 29)).alloc (.cells #[.int .i64 p.num, .int .u32 p.val] 34)).alloc (.cells #[.int .i64 0, .slice none 0 0, .slice none 0 0] 29)).drew.heap.size := by simp <;> omega
  have ltR : w.heap.size + 1 + 1 < (((w.alloc (.cells #[.int .i64 g.next, .slice A n c, .slice B m d] 29)).alloc (.cells #[.int .i64 p.num, .int .u32 p.val] 34)).alloc (.cells #[.int .i64 0, .slice none 0 0, .slice none 0 0] 29)).drew.heap.size := by simp <;> omega
  have cC := fun w1 (hb : Below (((w.alloc (.cells #[.int .i64 g.next, .slice A n c, .slice B m d] 29)).alloc (.cells #[.int .i64 p.num, .int .u32 p.val] 34)).alloc (.cells #[.int .i64 0, .slice none 0 0, .slice none 0 0] 29)).drew.heap.size (((w.alloc (.cells #[.int .i64 g.next, .slice A n c, .slice B m d] 29)).alloc (.cells #[.int .i64 p.num, .int .u32 p.val] 34)).alloc (.cells #[.int .i64 0, .slice none 0 0, .slice none 0 0] 29)).drew w1) => cloneP_any A c n g.early w1 (hs.below (b0.trans (hb.mono b0.size))) hn hn1
  have cW := fun w1 (hb : Below (((w.alloc (.cells #[.int .i64 g.next, .slice A n c, .slice B m d] 29)).alloc (.cells #[.int .i64 p.num, .int .u32 p.val] 34)).alloc (.cells #[.int .i64 0, .slice none 0 0, .slice none 0 0] 29)).drew.heap.size (((w.alloc (.cells #[.int .i64 g.next, .slice A n c, .slice B m d] 29)).alloc (.cells #[.int .i64 p.num, .int .u32 p.val] 34)).alloc (.cells #[.int .i64 0, .slice none 0 0, .slice none 0 0] 29)).drew w1) => cloneW_any B d m g.came w1 (hc.below (b0.trans (hb.mono b0.size))) hm hm1
  have cR := fun w1 (hb : Below w.heap.size w w1) => gRight_any A B c d n m g w1 (hs.below hb) hn
  obtain ⟨hg0, hg1, hnn, hge, hgl, hgs⟩ := gRight_facts hr
  have cS := fun (A' : Option Addr) (c' : Nat) w1 (h : Sl 2 Pce.enc w1 A' g.early) => search_any A' c' n g.early p.num w1 h hn hn1 hge hp hgl hp9 hgs
  rw [hr] at cR
  have zp : decide (p.num < 0) = false := decide_eq_false (by omega)
  have zM : (g.next == 1099511627776) = false := by rw [beq_eq_false_iff_ne]; exact hM
  clear hr hM hge hgl hgs hnn
  have zl : decide (p.num < g.next) = true := decide_eq_true hl
  clear hl
  have HN := Lib.hid hn
  have HM := Lib.hid hm
  clear hs hc hn hm
  go_enter Try.func7, Try.ntmps7
  go_wp2_with fail
  generalize (((w.alloc (.cells #[.int .i64 g.next, .slice A n c, .slice B m d] 29)).alloc (.cells #[.int .i64 p.num, .int .u32 p.val] 34)).alloc (.cells #[.int .i64 0, .slice none 0 0, .slice none 0 0] 29)) = W0 at *
  refine wp_region_rg (by kernel_rfl) (by kernel_rfl) [10, 11, 12, 13, 14, 15, 16, 17, 18, 7] (GetRPhi W0.drew w.heap.size A n c B m d g) ?h0 ⟨?q0, ?q1, ?q2, ?q3, ?q4, ?q5, ?q6, ?q7, ?q8, ?q9, ?q10, trivial⟩ ?hend
  case h0 => exact ⟨_, _, _, _, _, _, _, _, _, _, _, rfl, ⟨Below.refl _ _, (fun h => by cases h), (fun h => by cases h), (fun h => by cases h), (fun h => by cases h), (fun h => by cases h), (fun h => by cases h), (fun h => by cases h), (fun h => by cases h), (fun h => by cases h), (fun h => by cases h), (fun h => by cases h), (fun h => by cases h)⟩, rfl⟩
  case q0 =>
    rintro L vs w' K ⟨u10, u11, u12, u13, u14, u15, u16, u17, u18, u7, wz, rfl, φ, rfl⟩ hL hpre hcl hK G hG
    simp [Region.binds, closedFrom] at hpre hcl
    have hst : L 10 = false := by
      cases h : L 10 with
      | false => rfl
      | true => simp [h, hL] at hcl
    simp only [hst, Bool.false_eq_true, if_false] at hK hG
    have hk := hK [(.pointer (some ⟨w.heap.size, 0, none⟩)), u11, u12, u13, u14, u15, u16, u17, u18, u7] wz ⟨_, _, _, _, _, _, _, _, _, _, wz, rfl,
      { b := φ.b,
        s0 := fun _ => rfl,
        s1 := fun h0 => φ.s1 (by simpa using h0),
        s2 := fun h0 => φ.s2 (by simpa using h0),
        s3 := fun h0 => φ.s3 (by simpa using h0),
        s4 := fun h0 => φ.s4 (by simpa using h0),
        s5 := fun h0 => φ.s5 (by simpa using h0),
        s6 := fun h0 => φ.s6 (by simpa using h0),
        s7 := fun h0 => φ.s7 (by simpa using h0),
        s8 := fun h0 => φ.s8 (by simpa using h0),
        x9 := fun h0 => φ.x9 (by simpa using h0),
        d4 := fun h0 h1 => φ.d4 (by simpa using h0) (by simpa using h1),
        d7 := fun h0 h1 => φ.d7 (by simpa using h0) (by simpa using h1) }, by simp [hst]⟩
    refine hG ?_
    clear hK φ hG
    revert hk
    go_simp
    first | done | exact fun h => h
  case q1 =>
    rintro L vs w' K ⟨u10, u11, u12, u13, u14, u15, u16, u17, u18, u7, wz, rfl, φ, rfl⟩ hL hpre hcl hK G hG
    simp [Region.binds, closedFrom] at hpre hcl
    have hst : L 10 = false := by
      cases h : L 10 with
      | false => rfl
      | true => simp [h, hL] at hcl
    simp only [hst, Bool.false_eq_true, if_false] at hK hG
    obtain rfl := φ.s0 (by simp [hpre])
    have ce := (φ.b.cell (p := ⟨w.heap.size, 0, none⟩) ltB).trans e0
    have hk := hK [(.pointer (some ⟨w.heap.size, 0, none⟩)), (.int .i64 g.next), u12, u13, u14, u15, u16, u17, u18, u7] wz ⟨_, _, _, _, _, _, _, _, _, _, wz, rfl,
      { b := φ.b,
        s0 := fun h0 => φ.s0 (by simpa using h0),
        s1 := fun _ => rfl,
        s2 := fun h0 => φ.s2 (by simpa using h0),
        s3 := fun h0 => φ.s3 (by simpa using h0),
        s4 := fun h0 => φ.s4 (by simpa using h0),
        s5 := fun h0 => φ.s5 (by simpa using h0),
        s6 := fun h0 => φ.s6 (by simpa using h0),
        s7 := fun h0 => φ.s7 (by simpa using h0),
        s8 := fun h0 => φ.s8 (by simpa using h0),
        x9 := fun h0 => φ.x9 (by simpa using h0),
        d4 := fun h0 h1 => φ.d4 (by simpa using h0) (by simpa using h1),
        d7 := fun h0 h1 => φ.d7 (by simpa using h0) (by simpa using h1) }, by simp [hst]⟩
    refine hG ?_
    clear hK φ hG
    revert hk
    go_simp
    first | done | exact fun h => h
  case q2 =>
    rintro L vs w' K ⟨u10, u11, u12, u13, u14, u15, u16, u17, u18, u7, wz, rfl, φ, rfl⟩ hL hpre hcl hK G hG
    simp [Region.binds, closedFrom] at hpre hcl
    have hst : L 10 = false := by
      cases h : L 10 with
      | false => rfl
      | true => simp [h, hL] at hcl
    simp only [hst, Bool.false_eq_true, if_false] at hK hG
    have hk := hK [u10, u11, (.pointer (some ⟨w.heap.size, 1, none⟩)), u13, u14, u15, u16, u17, u18, u7] wz ⟨_, _, _, _, _, _, _, _, _, _, wz, rfl,
      { b := φ.b,
        s0 := fun h0 => φ.s0 (by simpa using h0),
        s1 := fun h0 => φ.s1 (by simpa using h0),
        s2 := fun _ => rfl,
        s3 := fun h0 => φ.s3 (by simpa using h0),
        s4 := fun h0 => φ.s4 (by simpa using h0),
        s5 := fun h0 => φ.s5 (by simpa using h0),
        s6 := fun h0 => φ.s6 (by simpa using h0),
        s7 := fun h0 => φ.s7 (by simpa using h0),
        s8 := fun h0 => φ.s8 (by simpa using h0),
        x9 := fun h0 => φ.x9 (by simpa using h0),
        d4 := fun h0 h1 => φ.d4 (by simpa using h0) (by simpa using h1),
        d7 := fun h0 h1 => φ.d7 (by simpa using h0) (by simpa using h1) }, by simp [hst]⟩
    refine hG ?_
    clear hK φ hG
    revert hk
    go_simp
    first | done | exact fun h => h
  case q3 =>
    rintro L vs w' K ⟨u10, u11, u12, u13, u14, u15, u16, u17, u18, u7, wz, rfl, φ, rfl⟩ hL hpre hcl hK G hG
    simp [Region.binds, closedFrom] at hpre hcl
    have hst : L 10 = false := by
      cases h : L 10 with
      | false => rfl
      | true => simp [h, hL] at hcl
    simp only [hst, Bool.false_eq_true, if_false] at hK hG
    obtain rfl := φ.s2 (by simp [hpre])
    have ce := (φ.b.cell (p := ⟨w.heap.size, 1, none⟩) ltB).trans e1
    have hk := hK [u10, u11, (.pointer (some ⟨w.heap.size, 1, none⟩)), (.slice A n c), u14, u15, u16, u17, u18, u7] wz ⟨_, _, _, _, _, _, _, _, _, _, wz, rfl,
      { b := φ.b,
        s0 := fun h0 => φ.s0 (by simpa using h0),
        s1 := fun h0 => φ.s1 (by simpa using h0),
        s2 := fun h0 => φ.s2 (by simpa using h0),
        s3 := fun _ => rfl,
        s4 := fun h0 => φ.s4 (by simpa using h0),
        s5 := fun h0 => φ.s5 (by simpa using h0),
        s6 := fun h0 => φ.s6 (by simpa using h0),
        s7 := fun h0 => φ.s7 (by simpa using h0),
        s8 := fun h0 => φ.s8 (by simpa using h0),
        x9 := fun h0 => φ.x9 (by simpa using h0),
        d4 := fun h0 h1 => φ.d4 (by simpa using h0) (by simpa using h1),
        d7 := fun h0 h1 => φ.d7 (by simpa using h0) (by simpa using h1) }, by simp [hst]⟩
    refine hG ?_
    clear hK φ hG
    revert hk
    go_simp
    first | done | exact fun h => h
  case q4 =>
    rintro L vs w' K ⟨u10, u11, u12, u13, u14, u15, u16, u17, u18, u7, wz, rfl, φ, rfl⟩ hL hpre hcl hK G hG
    simp [Region.binds, closedFrom] at hpre hcl
    have hst : L 10 = false := by
      cases h : L 10 with
      | false => rfl
      | true => simp [h, hL] at hcl
    simp only [hst, Bool.false_eq_true, if_false] at hK hG
    obtain rfl := φ.s3 (by simp [hpre])
    have L8 : L 8 = false := by
      cases h : L 8 with
      | false => rfl
      | true => simp [h, hL] at hcl
    refine hG (step_call wz rfl 13 #[.tmp 13] #[25] rfl #[.slice A n c] (by simp [Act.eval, Act.puts, Act.put]) (enters_of Try.func13 (by kernel_rfl) rfl) (cC wz φ.b) ?_)
    rintro e w9 ⟨v', rfl, ownN, hb9⟩
    refine ⟨v', rfl, ?_⟩
    have hk := hK [u10, u11, u12, (.slice A n c), (v'), u15, u16, u17, u18, u7] w9 ⟨_, _, _, _, _, _, _, _, _, _, w9, rfl,
      { b := φ.b.trans (hb9.mono φ.b.size),
        s0 := fun h0 => φ.s0 (by simpa using h0),
        s1 := fun h0 => φ.s1 (by simpa using h0),
        s2 := fun h0 => φ.s2 (by simpa using h0),
        s3 := fun h0 => φ.s3 (by simpa using h0),
        s4 := fun _ => own_weaken' ownN φ.b.size,
        s5 := fun h0 => φ.s5 (by simpa using h0),
        s6 := fun h0 => φ.s6 (by simpa using h0),
        s7 := fun h => own_below (φ.s7 (by simpa using h)) hb9,
        s8 := fun h => by simp [L8] at h,
        x9 := fun h => by
          obtain ⟨X, y1, y2, y3, y4⟩ := φ.x9 (by simpa using h)
          exact ⟨X, y1, y2, Nat.lt_of_lt_of_le y3 hb9.size, (hb9.block X y3).trans y4⟩,
        d4 := fun h _ X hX hE => by
          obtain ⟨X', y1, y2, y3, _⟩ := φ.x9 (by simpa using h)
          rw [hX] at y1
          obtain rfl : X = X' := by simpa using y1
          have := (ownN.lt _ hE).1
          omega,
        d7 := fun h0 h1 => φ.d7 (by simpa using h0) (by simpa using h1) }, by simp [hst]⟩
    clear hK φ hG
    revert hk
    go_simp
    first | done | exact fun h => h
  case q5 =>
    rintro L vs w' K ⟨u10, u11, u12, u13, u14, u15, u16, u17, u18, u7, wz, rfl, φ, rfl⟩ hL hpre hcl hK G hG
    simp [Region.binds, closedFrom] at hpre hcl
    have hst : L 10 = false := by
      cases h : L 10 with
      | false => rfl
      | true => simp [h, hL] at hcl
    simp only [hst, Bool.false_eq_true, if_false] at hK hG
    have hk := hK [u10, u11, u12, u13, u14, (.pointer (some ⟨w.heap.size, 2, none⟩)), u16, u17, u18, u7] wz ⟨_, _, _, _, _, _, _, _, _, _, wz, rfl,
      { b := φ.b,
        s0 := fun h0 => φ.s0 (by simpa using h0),
        s1 := fun h0 => φ.s1 (by simpa using h0),
        s2 := fun h0 => φ.s2 (by simpa using h0),
        s3 := fun h0 => φ.s3 (by simpa using h0),
        s4 := fun h0 => φ.s4 (by simpa using h0),
        s5 := fun _ => rfl,
        s6 := fun h0 => φ.s6 (by simpa using h0),
        s7 := fun h0 => φ.s7 (by simpa using h0),
        s8 := fun h0 => φ.s8 (by simpa using h0),
        x9 := fun h0 => φ.x9 (by simpa using h0),
        d4 := fun h0 h1 => φ.d4 (by simpa using h0) (by simpa using h1),
        d7 := fun h0 h1 => φ.d7 (by simpa using h0) (by simpa using h1) }, by simp [hst]⟩
    refine hG ?_
    clear hK φ hG
    revert hk
    go_simp
    first | done | exact fun h => h
  case q6 =>
    rintro L vs w' K ⟨u10, u11, u12, u13, u14, u15, u16, u17, u18, u7, wz, rfl, φ, rfl⟩ hL hpre hcl hK G hG
    simp [Region.binds, closedFrom] at hpre hcl
    have hst : L 10 = false := by
      cases h : L 10 with
      | false => rfl
      | true => simp [h, hL] at hcl
    simp only [hst, Bool.false_eq_true, if_false] at hK hG
    obtain rfl := φ.s5 (by simp [hpre])
    have ce := (φ.b.cell (p := ⟨w.heap.size, 2, none⟩) ltB).trans e2
    have hk := hK [u10, u11, u12, u13, u14, (.pointer (some ⟨w.heap.size, 2, none⟩)), (.slice B m d), u17, u18, u7] wz ⟨_, _, _, _, _, _, _, _, _, _, wz, rfl,
      { b := φ.b,
        s0 := fun h0 => φ.s0 (by simpa using h0),
        s1 := fun h0 => φ.s1 (by simpa using h0),
        s2 := fun h0 => φ.s2 (by simpa using h0),
        s3 := fun h0 => φ.s3 (by simpa using h0),
        s4 := fun h0 => φ.s4 (by simpa using h0),
        s5 := fun h0 => φ.s5 (by simpa using h0),
        s6 := fun _ => rfl,
        s7 := fun h0 => φ.s7 (by simpa using h0),
        s8 := fun h0 => φ.s8 (by simpa using h0),
        x9 := fun h0 => φ.x9 (by simpa using h0),
        d4 := fun h0 h1 => φ.d4 (by simpa using h0) (by simpa using h1),
        d7 := fun h0 h1 => φ.d7 (by simpa using h0) (by simpa using h1) }, by simp [hst]⟩
    refine hG ?_
    clear hK φ hG
    revert hk
    go_simp
    first | done | exact fun h => h
  case q7 =>
    rintro L vs w' K ⟨u10, u11, u12, u13, u14, u15, u16, u17, u18, u7, wz, rfl, φ, rfl⟩ hL hpre hcl hK G hG
    simp [Region.binds, closedFrom] at hpre hcl
    have hst : L 10 = false := by
      cases h : L 10 with
      | false => rfl
      | true => simp [h, hL] at hcl
    simp only [hst, Bool.false_eq_true, if_false] at hK hG
    obtain rfl := φ.s6 (by simp [hpre])
    have L8 : L 8 = false := by
      cases h : L 8 with
      | false => rfl
      | true => simp [h, hL] at hcl
    refine hG (step_call wz rfl 14 #[.tmp 16] #[22] rfl #[.slice B m d] (by simp [Act.eval, Act.puts, Act.put]) (enters_of Try.func14 (by kernel_rfl) rfl) (cW wz φ.b) ?_)
    rintro e w9 ⟨v', rfl, ownN, hb9⟩
    refine ⟨v', rfl, ?_⟩
    have hk := hK [u10, u11, u12, u13, u14, u15, (.slice B m d), (v'), u18, u7] w9 ⟨_, _, _, _, _, _, _, _, _, _, w9, rfl,
      { b := φ.b.trans (hb9.mono φ.b.size),
        s0 := fun h0 => φ.s0 (by simpa using h0),
        s1 := fun h0 => φ.s1 (by simpa using h0),
        s2 := fun h0 => φ.s2 (by simpa using h0),
        s3 := fun h0 => φ.s3 (by simpa using h0),
        s4 := fun h => own_below (φ.s4 (by simpa using h)) hb9,
        s5 := fun h0 => φ.s5 (by simpa using h0),
        s6 := fun h0 => φ.s6 (by simpa using h0),
        s7 := fun _ => own_weaken' ownN φ.b.size,
        s8 := fun h => by simp [L8] at h,
        x9 := fun h => by
          obtain ⟨X, y1, y2, y3, y4⟩ := φ.x9 (by simpa using h)
          exact ⟨X, y1, y2, Nat.lt_of_lt_of_le y3 hb9.size, (hb9.block X y3).trans y4⟩,
        d4 := fun h0 h1 => φ.d4 (by simpa using h0) (by simpa using h1),
        d7 := fun h _ X hX hE => by
          obtain ⟨X', y1, y2, y3, _⟩ := φ.x9 (by simpa using h)
          rw [hX] at y1
          obtain rfl : X = X' := by simpa using y1
          have := (ownN.lt _ hE).1
          omega }, by simp [hst]⟩
    clear hK φ hG
    revert hk
    go_simp
    first | done | exact fun h => h
  case q8 =>
    rintro L vs w' K ⟨u10, u11, u12, u13, u14, u15, u16, u17, u18, u7, wz, rfl, φ, rfl⟩ hL hpre hcl hK G hG
    simp [Region.binds, closedFrom] at hpre hcl
    have hst : L 10 = false := by
      cases h : L 10 with
      | false => rfl
      | true => simp [h, hL] at hcl
    simp only [hst, Bool.false_eq_true, if_false] at hK hG
    obtain rfl := φ.s1 (by simp [hpre])
    obtain ⟨A3, c3, rfl⟩ := own_shape (φ.s4 (by simp [hpre]))
    obtain ⟨B3, d3, rfl⟩ := own_shape (φ.s7 (by simp [hpre]))
    have hk := hK [u10, (.int .i64 g.next), u12, u13, (.slice A3 n c3), u15, u16, (.slice B3 m d3), (.agg #[.int .i64 g.next, .slice A3 n c3, .slice B3 m d3]), u7] wz ⟨_, _, _, _, _, _, _, _, _, _, wz, rfl,
      { b := φ.b,
        s0 := fun h0 => φ.s0 (by simpa using h0),
        s1 := fun h0 => φ.s1 (by simpa using h0),
        s2 := fun h0 => φ.s2 (by simpa using h0),
        s3 := fun h0 => φ.s3 (by simpa using h0),
        s4 := fun h0 => φ.s4 (by simpa using h0),
        s5 := fun h0 => φ.s5 (by simpa using h0),
        s6 := fun h0 => φ.s6 (by simpa using h0),
        s7 := fun h0 => φ.s7 (by simpa using h0),
        s8 := fun _ => rfl,
        x9 := fun h0 => φ.x9 (by simpa using h0),
        d4 := fun h0 h1 => φ.d4 (by simpa using h0) (by simpa using h1),
        d7 := fun h0 h1 => φ.d7 (by simpa using h0) (by simpa using h1) }, by simp [hst]⟩
    refine hG ?_
    clear hK φ hG
    revert hk
    go_simp
    first | done | exact fun h => h
  case q9 =>
    rintro L vs w' K ⟨u10, u11, u12, u13, u14, u15, u16, u17, u18, u7, wz, rfl, φ, rfl⟩ hL hpre hcl hK G hG
    simp [Region.binds, closedFrom] at hpre hcl
    have hst : L 10 = false := by
      cases h : L 10 with
      | false => rfl
      | true => simp [h, hL] at hcl
    simp only [hst, Bool.false_eq_true, if_false] at hK hG
    have hk := hK [u10, u11, u12, u13, u14, u15, u16, u17, u18, (.pointer (some ⟨wz.heap.size, 0, none⟩))] (wz.alloc (.cells #[.int .i64 0, .slice none 0 0, .slice none 0 0] 29)) ⟨_, _, _, _, _, _, _, _, _, _, (wz.alloc (.cells #[.int .i64 0, .slice none 0 0, .slice none 0 0] 29)), rfl,
      { b := φ.b.alloc φ.b.size _,
        s0 := fun h0 => φ.s0 (by simpa using h0),
        s1 := fun h0 => φ.s1 (by simpa using h0),
        s2 := fun h0 => φ.s2 (by simpa using h0),
        s3 := fun h0 => φ.s3 (by simpa using h0),
        s4 := fun h0 => (φ.s4 (by simpa using h0)).alloc _,
        s5 := fun h0 => φ.s5 (by simpa using h0),
        s6 := fun h0 => φ.s6 (by simpa using h0),
        s7 := fun h0 => (φ.s7 (by simpa using h0)).alloc _,
        s8 := fun h0 => φ.s8 (by simpa using h0),
        x9 := fun _ => ⟨wz.heap.size, rfl, φ.b.size, by simp, heap_alloc_new wz _⟩,
        d4 := fun _ h0 X hX e => by
          obtain rfl : wz.heap.size = X := by simpa using hX
          exact Nat.lt_irrefl _ ((φ.s4 (by simpa using h0)).lt _ e).2,
        d7 := fun _ h0 X hX e => by
          obtain rfl : wz.heap.size = X := by simpa using hX
          exact Nat.lt_irrefl _ ((φ.s7 (by simpa using h0)).lt _ e).2 }, by simp [hst]⟩
    refine hG ?_
    clear hK φ hG
    revert hk
    go_simp
    first | done | exact fun h => h
  case q10 =>
    rintro L vs w' K ⟨u10, u11, u12, u13, u14, u15, u16, u17, u18, u7, wz, rfl, φ, rfl⟩ hL hpre hcl hK G hG
    simp [Region.binds, closedFrom] at hpre hcl
    simp only [hL, Bool.false_eq_true, if_false] at hK hG
    obtain ⟨A3, c3, rfl⟩ := own_shape (φ.s4 (by simp [hpre]))
    obtain ⟨B3, d3, rfl⟩ := own_shape (φ.s7 (by simp [hpre]))
    obtain rfl := φ.s8 (by simp [hpre])
    obtain ⟨X, rfl, x2, x3, x4⟩ := φ.x9 (by simp [hpre])
    obtain ⟨y0, y1, y2, z0, z1, z2⟩ := cells3 x4
    have hk := hK [u10, u11, u12, u13, (.slice A3 n c3), u15, u16, (.slice B3 m d3), (.agg #[.int .i64 g.next, .slice A3 n c3, .slice B3 m d3]), (.pointer (some ⟨X, 0, none⟩))] (((wz.setCell ⟨X, 0, none⟩ (.int .i64 g.next)).setCell ⟨X, 1, none⟩ (.slice A3 n c3)).setCell ⟨X, 2, none⟩ (.slice B3 m d3)) ⟨_, _, _, _, _, _, _, _, _, _, wz, rfl,
      { b := φ.b,
        s0 := fun h0 => φ.s0 (by simpa using h0),
        s1 := fun h0 => φ.s1 (by simpa using h0),
        s2 := fun h0 => φ.s2 (by simpa using h0),
        s3 := fun h0 => φ.s3 (by simpa using h0),
        s4 := fun h0 => φ.s4 (by simpa using h0),
        s5 := fun h0 => φ.s5 (by simpa using h0),
        s6 := fun h0 => φ.s6 (by simpa using h0),
        s7 := fun h0 => φ.s7 (by simpa using h0),
        s8 := fun h0 => φ.s8 (by simpa using h0),
        x9 := fun h0 => φ.x9 (by simpa using h0),
        d4 := fun h0 h1 => φ.d4 (by simpa using h0) (by simpa using h1),
        d7 := fun h0 h1 => φ.d7 (by simpa using h0) (by simpa using h1) }, by simp [laid3]⟩
    refine hG ?_
    clear hK φ hG
    revert hk
    go_simp
    first | done | exact fun h => h
  case hend =>
    rintro vs w' ⟨u10, u11, u12, u13, u14, u15, u16, u17, u18, u7, wz, rfl, φ, rfl⟩ G hG
    have o4 := φ.s4 rfl
    have o7 := φ.s7 rfl
    have b9 := φ.b
    obtain ⟨A3, c3, rfl⟩ := own_shape o4
    obtain ⟨B3, d3, rfl⟩ := own_shape o7
    obtain ⟨X7, rfl, x2, x3, x4⟩ := φ.x9 rfl
    obtain ⟨y0, y1, y2, z0, z1, z2⟩ := cells3 x4
    have ne7 := φ.d4 rfl rfl X7 rfl
    have ne8 := φ.d7 rfl rfl X7 rfl
    clear φ
    have hst : decide (10 < 11) = true := rfl
    simp only [List.size_toArray, List.length_cons, List.length_nil, Nat.zero_add, Nat.reduceAdd, hst, if_true, laid3] at hG
    have CP := copied3 (g := g) (n := n) (m := m) (A := A3) (c := c3) (B := B3) (d := d3) y0 y1 y2 z0 z1 z2 x2 x3 o4 o7 ne7 ne8 b9
    clear hst o4 o7 b9 x2 x3 x4 y0 y1 y2 z0 z1 z2 ne7 ne8
    refine hG ?_
    clear hG
    generalize ((wz.setCell ⟨X7, 0, none⟩ (.int .i64 g.next)).setCell ⟨X7, 1, none⟩ (.slice A3 n c3)).setCell ⟨X7, 2, none⟩ (.slice B3 m d3) = w2 at *
    obtain ⟨x0, x1, x2, f0, f1, f2, lo, hi, own, ownC, ne, neC, b9⟩ := CP
    have qP : w.heap.size + 1 + 1 < X7 := Nat.lt_of_lt_of_le ltR lo
    have loS : w.heap.size + 3 ≤ W0.drew.heap.size := by omega
    replace e0 := (b9.cell (p := ⟨w.heap.size, 0, none⟩) (World.block_lt_of_cell? _ _ e0)).trans e0
    replace e1 := (b9.cell (p := ⟨w.heap.size, 1, none⟩) (World.block_lt_of_cell? _ _ e1)).trans e1
    replace e2 := (b9.cell (p := ⟨w.heap.size, 2, none⟩) (World.block_lt_of_cell? _ _ e2)).trans e2
    replace p0 := (b9.cell (p := ⟨w.heap.size + 1, 0, none⟩) (World.block_lt_of_cell? _ _ p0)).trans p0
    replace p1 := (b9.cell (p := ⟨w.heap.size + 1, 1, none⟩) (World.block_lt_of_cell? _ _ p1)).trans p1
    replace r0 := (b9.cell (p := ⟨w.heap.size + 1 + 1, 0, none⟩) (World.block_lt_of_cell? _ _ r0)).trans r0
    replace r1 := (b9.cell (p := ⟨w.heap.size + 1 + 1, 1, none⟩) (World.block_lt_of_cell? _ _ r1)).trans r1
    replace r2 := (b9.cell (p := ⟨w.heap.size + 1 + 1, 2, none⟩) (World.block_lt_of_cell? _ _ r2)).trans r2
    replace fr0 := (b9.frozen (p := ⟨w.heap.size + 1 + 1, 0, none⟩) ltR).trans fr0
    replace fr1 := (b9.frozen (p := ⟨w.heap.size + 1 + 1, 1, none⟩) ltR).trans fr1
    replace fr2 := (b9.frozen (p := ⟨w.heap.size + 1 + 1, 2, none⟩) ltR).trans fr2
    replace ltB := Nat.lt_of_lt_of_le ltB b9.size
    replace ltP := Nat.lt_of_lt_of_le ltP b9.size
    replace ltR := Nat.lt_of_lt_of_le ltR b9.size
    replace b0 := b0.trans (b9.mono b0.size)
    clear b9 cC cW
    go_wp2_with fail
    refine (cR _ b0).mono ?_
    rintro e w3 ⟨rfl, hb3⟩
    replace e0 := (hb3.cell (p := ⟨w.heap.size, 0, none⟩) (World.block_lt_of_cell? _ _ e0)).trans e0
    replace e1 := (hb3.cell (p := ⟨w.heap.size, 1, none⟩) (World.block_lt_of_cell? _ _ e1)).trans e1
    replace e2 := (hb3.cell (p := ⟨w.heap.size, 2, none⟩) (World.block_lt_of_cell? _ _ e2)).trans e2
    replace p0 := (hb3.cell (p := ⟨w.heap.size + 1, 0, none⟩) (World.block_lt_of_cell? _ _ p0)).trans p0
    replace p1 := (hb3.cell (p := ⟨w.heap.size + 1, 1, none⟩) (World.block_lt_of_cell? _ _ p1)).trans p1
    replace r0 := (hb3.cell (p := ⟨w.heap.size + 1 + 1, 0, none⟩) (World.block_lt_of_cell? _ _ r0)).trans r0
    replace r1 := (hb3.cell (p := ⟨w.heap.size + 1 + 1, 1, none⟩) (World.block_lt_of_cell? _ _ r1)).trans r1
    replace r2 := (hb3.cell (p := ⟨w.heap.size + 1 + 1, 2, none⟩) (World.block_lt_of_cell? _ _ r2)).trans r2
    replace x0 := (hb3.cell (p := ⟨X7, 0, none⟩) (World.block_lt_of_cell? _ _ x0)).trans x0
    replace x1 := (hb3.cell (p := ⟨X7, 1, none⟩) (World.block_lt_of_cell? _ _ x1)).trans x1
    replace x2 := (hb3.cell (p := ⟨X7, 2, none⟩) (World.block_lt_of_cell? _ _ x2)).trans x2
    replace fr0 := (hb3.frozen (p := ⟨w.heap.size + 1 + 1, 0, none⟩) ltR).trans fr0
    replace fr1 := (hb3.frozen (p := ⟨w.heap.size + 1 + 1, 1, none⟩) ltR).trans fr1
    replace fr2 := (hb3.frozen (p := ⟨w.heap.size + 1 + 1, 2, none⟩) ltR).trans fr2
    replace f0 := (hb3.frozen (p := ⟨X7, 0, none⟩) hi).trans f0
    replace f1 := (hb3.frozen (p := ⟨X7, 1, none⟩) hi).trans f1
    replace f2 := (hb3.frozen (p := ⟨X7, 2, none⟩) hi).trans f2
    replace ltB := Nat.lt_of_lt_of_le ltB hb3.size
    replace ltP := Nat.lt_of_lt_of_le ltP hb3.size
    replace ltR := Nat.lt_of_lt_of_le ltR hb3.size
    replace hi := Nat.lt_of_lt_of_le hi hb3.size
    replace own := own_below own hb3
    replace ownC := own_below ownC hb3
    replace b0 := b0.trans (hb3.mono b0.size)
    clear hb3 cR
    have sE0 := Sl.of_own Pce.enc_len own HN.out
    go_wp2_with fail
    refine (cS _ _ _ sE0).mono ?_
    rintro e w4 ⟨ii, hst, rfl, hb4⟩
    have HST := Lib.hid hst
    have hil := hst.le
    clear hst cS sE0
    generalize decide (ii < g.early.length ∧ g.early[ii]!.num = p.num) = bb
    replace e0 := (hb4.cell (p := ⟨w.heap.size, 0, none⟩) (World.block_lt_of_cell? _ _ e0)).trans e0
    replace e1 := (hb4.cell (p := ⟨w.heap.size, 1, none⟩) (World.block_lt_of_cell? _ _ e1)).trans e1
    replace e2 := (hb4.cell (p := ⟨w.heap.size, 2, none⟩) (World.block_lt_of_cell? _ _ e2)).trans e2
    replace p0 := (hb4.cell (p := ⟨w.heap.size + 1, 0, none⟩) (World.block_lt_of_cell? _ _ p0)).trans p0
    replace p1 := (hb4.cell (p := ⟨w.heap.size + 1, 1, none⟩) (World.block_lt_of_cell? _ _ p1)).trans p1
    replace r0 := (hb4.cell (p := ⟨w.heap.size + 1 + 1, 0, none⟩) (World.block_lt_of_cell? _ _ r0)).trans r0
    replace r1 := (hb4.cell (p := ⟨w.heap.size + 1 + 1, 1, none⟩) (World.block_lt_of_cell? _ _ r1)).trans r1
    replace r2 := (hb4.cell (p := ⟨w.heap.size + 1 + 1, 2, none⟩) (World.block_lt_of_cell? _ _ r2)).trans r2
    replace x0 := (hb4.cell (p := ⟨X7, 0, none⟩) (World.block_lt_of_cell? _ _ x0)).trans x0
    replace x1 := (hb4.cell (p := ⟨X7, 1, none⟩) (World.block_lt_of_cell? _ _ x1)).trans x1
    replace x2 := (hb4.cell (p := ⟨X7, 2, none⟩) (World.block_lt_of_cell? _ _ x2)).trans x2
    replace fr0 := (hb4.frozen (p := ⟨w.heap.size + 1 + 1, 0, none⟩) ltR).trans fr0
    replace fr1 := (hb4.frozen (p := ⟨w.heap.size + 1 + 1, 1, none⟩) ltR).trans fr1
    replace fr2 := (hb4.frozen (p := ⟨w.heap.size + 1 + 1, 2, none⟩) ltR).trans fr2
    replace f0 := (hb4.frozen (p := ⟨X7, 0, none⟩) hi).trans f0
    replace f1 := (hb4.frozen (p := ⟨X7, 1, none⟩) hi).trans f1
    replace f2 := (hb4.frozen (p := ⟨X7, 2, none⟩) hi).trans f2
    replace ltB := Nat.lt_of_lt_of_le ltB hb4.size
    replace ltP := Nat.lt_of_lt_of_le ltP hb4.size
    replace ltR := Nat.lt_of_lt_of_le ltR hb4.size
    replace hi := Nat.lt_of_lt_of_le hi hb4.size
    replace own := own_below own hb4
    replace ownC := own_below ownC hb4
    replace b0 := b0.trans (hb4.mono b0.size)
    clear hb4
    have sE := Sl.of_own Pce.enc_len own HN.out
    have sC := Sl.of_own Wrd.enc_len ownC HM.out
    have fA : ∀ a, A3 = some a → w.heap.size + 3 ≤ a.block := own_fresh own loS
    have fB : ∀ a, B3 = some a → w.heap.size + 3 ≤ a.block := own_fresh ownC loS
    clear own ownC
    go_wp2_with fail
    go_region
    go_wp2_with fail
    exact bodyPost_ret (v := .tuple #[.agg #[.int .i64 g.next, .slice A3 n c3, .slice B3 m d3], .int .i64 g.next, .int .i64 0]) (by simp [results, Try.results7, go_sem, r0, r1, r2]) rfl (gaveG_ret HN.out HM.out sE sC fA fB b0)

set_option maxHeartbeats 16000000 in
theorem get_high (A B : Option Addr) (c d n m : Nat) (g : Gtr) (p : Pce) (w : World) (hs : Sl 2 Pce.enc w A g.early) (hc : Sl 1 Wrd.enc w B g.came) (hn : g.early.length = n) (hm : g.came.length = m) (hn1 : n ≤ 1000000) (hm1 : m ≤ 1000000)
    (hr : gRight g = true) (hp : 0 ≤ p.num) (hp9 : p.num ≤ 9223372036854775807) (hM : g.next ≠ 1099511627776) (hl : g.next ≤ p.num) (hh : g.next + 16 ≤ p.num) :
    Calls Try.prog 7 #[.agg #[.int .i64 g.next, .slice A n c, .slice B m d], .agg #[.int .i64 p.num, .int .u32 p.val]] w (GaveG w g g.next 0) := by
  have b0 : Below w.heap.size w (((w.alloc (.cells #[.int .i64 g.next, .slice A n c, .slice B m d] 29)).alloc (.cells #[.int .i64 p.num, .int .u32 p.val] 34)).alloc (.cells #[.int .i64 0, .slice none 0 0, .slice none 0 0] 29)).drew := ((((Below.refl _ _).alloc (Nat.le_refl _) _).alloc (by simp) _).alloc (by simp <;> omega) _).drew
  have e0 : (((w.alloc (.cells #[.int .i64 g.next, .slice A n c, .slice B m d] 29)).alloc (.cells #[.int .i64 p.num, .int .u32 p.val] 34)).alloc (.cells #[.int .i64 0, .slice none 0 0, .slice none 0 0] 29)).drew.cell? ⟨w.heap.size, 0, none⟩ = some (.int .i64 g.next) := by go_simp
  have e1 : (((w.alloc (.cells #[.int .i64 g.next, .slice A n c, .slice B m d] 29)).alloc (.cells #[.int .i64 p.num, .int .u32 p.val] 34)).alloc (.cells #[.int .i64 0, .slice none 0 0, .slice none 0 0] 29)).drew.cell? ⟨w.heap.size, 1, none⟩ = some (.slice A n c) := by go_simp
  have e2 : (((w.alloc (.cells #[.int .i64 g.next, .slice A n c, .slice B m d] 29)).alloc (.cells #[.int .i64 p.num, .int .u32 p.val] 34)).alloc (.cells #[.int .i64 0, .slice none 0 0, .slice none 0 0] 29)).drew.cell? ⟨w.heap.size, 2, none⟩ = some (.slice B m d) := by go_simp
  have p0 : (((w.alloc (.cells #[.int .i64 g.next, .slice A n c, .slice B m d] 29)).alloc (.cells #[.int .i64 p.num, .int .u32 p.val] 34)).alloc (.cells #[.int .i64 0, .slice none 0 0, .slice none 0 0] 29)).drew.cell? ⟨w.heap.size + 1, 0, none⟩ = some (.int .i64 p.num) := by go_simp
  have p1 : (((w.alloc (.cells #[.int .i64 g.next, .slice A n c, .slice B m d] 29)).alloc (.cells #[.int .i64 p.num, .int .u32 p.val] 34)).alloc (.cells #[.int .i64 0, .slice none 0 0, .slice none 0 0] 29)).drew.cell? ⟨w.heap.size + 1, 1, none⟩ = some (.int .u32 p.val) := by go_simp
  have r0 : (((w.alloc (.cells #[.int .i64 g.next, .slice A n c, .slice B m d] 29)).alloc (.cells #[.int .i64 p.num, .int .u32 p.val] 34)).alloc (.cells #[.int .i64 0, .slice none 0 0, .slice none 0 0] 29)).drew.cell? ⟨w.heap.size + 1 + 1, 0, none⟩ = some (.int .i64 0) := by go_simp
  have r1 : (((w.alloc (.cells #[.int .i64 g.next, .slice A n c, .slice B m d] 29)).alloc (.cells #[.int .i64 p.num, .int .u32 p.val] 34)).alloc (.cells #[.int .i64 0, .slice none 0 0, .slice none 0 0] 29)).drew.cell? ⟨w.heap.size + 1 + 1, 1, none⟩ = some (.slice none 0 0) := by go_simp
  have r2 : (((w.alloc (.cells #[.int .i64 g.next, .slice A n c, .slice B m d] 29)).alloc (.cells #[.int .i64 p.num, .int .u32 p.val] 34)).alloc (.cells #[.int .i64 0, .slice none 0 0, .slice none 0 0] 29)).drew.cell? ⟨w.heap.size + 1 + 1, 2, none⟩ = some (.slice none 0 0) := by go_simp
  have fr0 : (((w.alloc (.cells #[.int .i64 g.next, .slice A n c, .slice B m d] 29)).alloc (.cells #[.int .i64 p.num, .int .u32 p.val] 34)).alloc (.cells #[.int .i64 0, .slice none 0 0, .slice none 0 0] 29)).drew.frozen? ⟨w.heap.size + 1 + 1, 0, none⟩ = false := by go_simp
  have fr1 : (((w.alloc (.cells #[.int .i64 g.next, .slice A n c, .slice B m d] 29)).alloc (.cells #[.int .i64 p.num, .int .u32 p.val] 34)).alloc (.cells #[.int .i64 0, .slice none 0 0, .slice none 0 0] 29)).drew.frozen? ⟨w.heap.size + 1 + 1, 1, none⟩ = false := by go_simp
  have fr2 : (((w.alloc (.cells #[.int .i64 g.next, .slice A n c, .slice B m d] 29)).alloc (.cells #[.int .i64 p.num, .int .u32 p.val] 34)).alloc (.cells #[.int .i64 0, .slice none 0 0, .slice none 0 0] 29)).drew.frozen? ⟨w.heap.size + 1 + 1, 2, none⟩ = false := by go_simp
  have ltB : w.heap.size < (((w.alloc (.cells #[.int .i64 g.next, .slice A n c, .slice B m d] 29)).alloc (.cells #[.int .i64 p.num, .int .u32 p.val] 34)).alloc (.cells #[.int .i64 0, .slice none 0 0, .slice none 0 0] 29)).drew.heap.size := by simp <;> omega
  have ltP : w.heap.size + 1 < (((w.alloc (.cells #[.int .i64 g.next, .slice A n c, .slice B m d] 29)).alloc (.cells #[.int .i64 p.num, .int .u32 p.val] 34)).alloc (.cells #[.int .i64 0, .slice none 0 0, .slice none 0 0] 29)).drew.heap.size := by simp <;> omega
  have ltR : w.heap.size + 1 + 1 < (((w.alloc (.cells #[.int .i64 g.next, .slice A n c, .slice B m d] 29)).alloc (.cells #[.int .i64 p.num, .int .u32 p.val] 34)).alloc (.cells #[.int .i64 0, .slice none 0 0, .slice none 0 0] 29)).drew.heap.size := by simp <;> omega
  have cC := fun w1 (hb : Below (((w.alloc (.cells #[.int .i64 g.next, .slice A n c, .slice B m d] 29)).alloc (.cells #[.int .i64 p.num, .int .u32 p.val] 34)).alloc (.cells #[.int .i64 0, .slice none 0 0, .slice none 0 0] 29)).drew.heap.size (((w.alloc (.cells #[.int .i64 g.next, .slice A n c, .slice B m d] 29)).alloc (.cells #[.int .i64 p.num, .int .u32 p.val] 34)).alloc (.cells #[.int .i64 0, .slice none 0 0, .slice none 0 0] 29)).drew w1) => cloneP_any A c n g.early w1 (hs.below (b0.trans (hb.mono b0.size))) hn hn1
  have cW := fun w1 (hb : Below (((w.alloc (.cells #[.int .i64 g.next, .slice A n c, .slice B m d] 29)).alloc (.cells #[.int .i64 p.num, .int .u32 p.val] 34)).alloc (.cells #[.int .i64 0, .slice none 0 0, .slice none 0 0] 29)).drew.heap.size (((w.alloc (.cells #[.int .i64 g.next, .slice A n c, .slice B m d] 29)).alloc (.cells #[.int .i64 p.num, .int .u32 p.val] 34)).alloc (.cells #[.int .i64 0, .slice none 0 0, .slice none 0 0] 29)).drew w1) => cloneW_any B d m g.came w1 (hc.below (b0.trans (hb.mono b0.size))) hm hm1
  have cR := fun w1 (hb : Below w.heap.size w w1) => gRight_any A B c d n m g w1 (hs.below hb) hn
  obtain ⟨hg0, hg1, hnn, hge, hgl, hgs⟩ := gRight_facts hr
  have cS := fun (A' : Option Addr) (c' : Nat) w1 (h : Sl 2 Pce.enc w1 A' g.early) => search_any A' c' n g.early p.num w1 h hn hn1 hge hp hgl hp9 hgs
  rw [hr] at cR
  have zp : decide (p.num < 0) = false := decide_eq_false (by omega)
  have zM : (g.next == 1099511627776) = false := by rw [beq_eq_false_iff_ne]; exact hM
  clear hr hM hge hgl hgs hnn
  have zl : decide (p.num < g.next) = false := decide_eq_false (by omega)
  have zh : decide (g.next + 16 ≤ p.num) = true := decide_eq_true hh
  clear hl hh
  have HN := Lib.hid hn
  have HM := Lib.hid hm
  clear hs hc hn hm
  go_enter Try.func7, Try.ntmps7
  go_wp2_with fail
  generalize (((w.alloc (.cells #[.int .i64 g.next, .slice A n c, .slice B m d] 29)).alloc (.cells #[.int .i64 p.num, .int .u32 p.val] 34)).alloc (.cells #[.int .i64 0, .slice none 0 0, .slice none 0 0] 29)) = W0 at *
  refine wp_region_rg (by kernel_rfl) (by kernel_rfl) [10, 11, 12, 13, 14, 15, 16, 17, 18, 7] (GetRPhi W0.drew w.heap.size A n c B m d g) ?h0 ⟨?q0, ?q1, ?q2, ?q3, ?q4, ?q5, ?q6, ?q7, ?q8, ?q9, ?q10, trivial⟩ ?hend
  case h0 => exact ⟨_, _, _, _, _, _, _, _, _, _, _, rfl, ⟨Below.refl _ _, (fun h => by cases h), (fun h => by cases h), (fun h => by cases h), (fun h => by cases h), (fun h => by cases h), (fun h => by cases h), (fun h => by cases h), (fun h => by cases h), (fun h => by cases h), (fun h => by cases h), (fun h => by cases h), (fun h => by cases h)⟩, rfl⟩
  case q0 =>
    rintro L vs w' K ⟨u10, u11, u12, u13, u14, u15, u16, u17, u18, u7, wz, rfl, φ, rfl⟩ hL hpre hcl hK G hG
    simp [Region.binds, closedFrom] at hpre hcl
    have hst : L 10 = false := by
      cases h : L 10 with
      | false => rfl
      | true => simp [h, hL] at hcl
    simp only [hst, Bool.false_eq_true, if_false] at hK hG
    have hk := hK [(.pointer (some ⟨w.heap.size, 0, none⟩)), u11, u12, u13, u14, u15, u16, u17, u18, u7] wz ⟨_, _, _, _, _, _, _, _, _, _, wz, rfl,
      { b := φ.b,
        s0 := fun _ => rfl,
        s1 := fun h0 => φ.s1 (by simpa using h0),
        s2 := fun h0 => φ.s2 (by simpa using h0),
        s3 := fun h0 => φ.s3 (by simpa using h0),
        s4 := fun h0 => φ.s4 (by simpa using h0),
        s5 := fun h0 => φ.s5 (by simpa using h0),
        s6 := fun h0 => φ.s6 (by simpa using h0),
        s7 := fun h0 => φ.s7 (by simpa using h0),
        s8 := fun h0 => φ.s8 (by simpa using h0),
        x9 := fun h0 => φ.x9 (by simpa using h0),
        d4 := fun h0 h1 => φ.d4 (by simpa using h0) (by simpa using h1),
        d7 := fun h0 h1 => φ.d7 (by simpa using h0) (by simpa using h1) }, by simp [hst]⟩
    refine hG ?_
    clear hK φ hG
    revert hk
    go_simp
    first | done | exact fun h => h
  case q1 =>
    rintro L vs w' K ⟨u10, u11, u12, u13, u14, u15, u16, u17, u18, u7, wz, rfl, φ, rfl⟩ hL hpre hcl hK G hG
    simp [Region.binds, closedFrom] at hpre hcl
    have hst : L 10 = false := by
      cases h : L 10 with
      | false => rfl
      | true => simp [h, hL] at hcl
    simp only [hst, Bool.false_eq_true, if_false] at hK hG
    obtain rfl := φ.s0 (by simp [hpre])
    have ce := (φ.b.cell (p := ⟨w.heap.size, 0, none⟩) ltB).trans e0
    have hk := hK [(.pointer (some ⟨w.heap.size, 0, none⟩)), (.int .i64 g.next), u12, u13, u14, u15, u16, u17, u18, u7] wz ⟨_, _, _, _, _, _, _, _, _, _, wz, rfl,
      { b := φ.b,
        s0 := fun h0 => φ.s0 (by simpa using h0),
        s1 := fun _ => rfl,
        s2 := fun h0 => φ.s2 (by simpa using h0),
        s3 := fun h0 => φ.s3 (by simpa using h0),
        s4 := fun h0 => φ.s4 (by simpa using h0),
        s5 := fun h0 => φ.s5 (by simpa using h0),
        s6 := fun h0 => φ.s6 (by simpa using h0),
        s7 := fun h0 => φ.s7 (by simpa using h0),
        s8 := fun h0 => φ.s8 (by simpa using h0),
        x9 := fun h0 => φ.x9 (by simpa using h0),
        d4 := fun h0 h1 => φ.d4 (by simpa using h0) (by simpa using h1),
        d7 := fun h0 h1 => φ.d7 (by simpa using h0) (by simpa using h1) }, by simp [hst]⟩
    refine hG ?_
    clear hK φ hG
    revert hk
    go_simp
    first | done | exact fun h => h
  case q2 =>
    rintro L vs w' K ⟨u10, u11, u12, u13, u14, u15, u16, u17, u18, u7, wz, rfl, φ, rfl⟩ hL hpre hcl hK G hG
    simp [Region.binds, closedFrom] at hpre hcl
    have hst : L 10 = false := by
      cases h : L 10 with
      | false => rfl
      | true => simp [h, hL] at hcl
    simp only [hst, Bool.false_eq_true, if_false] at hK hG
    have hk := hK [u10, u11, (.pointer (some ⟨w.heap.size, 1, none⟩)), u13, u14, u15, u16, u17, u18, u7] wz ⟨_, _, _, _, _, _, _, _, _, _, wz, rfl,
      { b := φ.b,
        s0 := fun h0 => φ.s0 (by simpa using h0),
        s1 := fun h0 => φ.s1 (by simpa using h0),
        s2 := fun _ => rfl,
        s3 := fun h0 => φ.s3 (by simpa using h0),
        s4 := fun h0 => φ.s4 (by simpa using h0),
        s5 := fun h0 => φ.s5 (by simpa using h0),
        s6 := fun h0 => φ.s6 (by simpa using h0),
        s7 := fun h0 => φ.s7 (by simpa using h0),
        s8 := fun h0 => φ.s8 (by simpa using h0),
        x9 := fun h0 => φ.x9 (by simpa using h0),
        d4 := fun h0 h1 => φ.d4 (by simpa using h0) (by simpa using h1),
        d7 := fun h0 h1 => φ.d7 (by simpa using h0) (by simpa using h1) }, by simp [hst]⟩
    refine hG ?_
    clear hK φ hG
    revert hk
    go_simp
    first | done | exact fun h => h
  case q3 =>
    rintro L vs w' K ⟨u10, u11, u12, u13, u14, u15, u16, u17, u18, u7, wz, rfl, φ, rfl⟩ hL hpre hcl hK G hG
    simp [Region.binds, closedFrom] at hpre hcl
    have hst : L 10 = false := by
      cases h : L 10 with
      | false => rfl
      | true => simp [h, hL] at hcl
    simp only [hst, Bool.false_eq_true, if_false] at hK hG
    obtain rfl := φ.s2 (by simp [hpre])
    have ce := (φ.b.cell (p := ⟨w.heap.size, 1, none⟩) ltB).trans e1
    have hk := hK [u10, u11, (.pointer (some ⟨w.heap.size, 1, none⟩)), (.slice A n c), u14, u15, u16, u17, u18, u7] wz ⟨_, _, _, _, _, _, _, _, _, _, wz, rfl,
      { b := φ.b,
        s0 := fun h0 => φ.s0 (by simpa using h0),
        s1 := fun h0 => φ.s1 (by simpa using h0),
        s2 := fun h0 => φ.s2 (by simpa using h0),
        s3 := fun _ => rfl,
        s4 := fun h0 => φ.s4 (by simpa using h0),
        s5 := fun h0 => φ.s5 (by simpa using h0),
        s6 := fun h0 => φ.s6 (by simpa using h0),
        s7 := fun h0 => φ.s7 (by simpa using h0),
        s8 := fun h0 => φ.s8 (by simpa using h0),
        x9 := fun h0 => φ.x9 (by simpa using h0),
        d4 := fun h0 h1 => φ.d4 (by simpa using h0) (by simpa using h1),
        d7 := fun h0 h1 => φ.d7 (by simpa using h0) (by simpa using h1) }, by simp [hst]⟩
    refine hG ?_
    clear hK φ hG
    revert hk
    go_simp
    first | done | exact fun h => h
  case q4 =>
    rintro L vs w' K ⟨u10, u11, u12, u13, u14, u15, u16, u17, u18, u7, wz, rfl, φ, rfl⟩ hL hpre hcl hK G hG
    simp [Region.binds, closedFrom] at hpre hcl
    have hst : L 10 = false := by
      cases h : L 10 with
      | false => rfl
      | true => simp [h, hL] at hcl
    simp only [hst, Bool.false_eq_true, if_false] at hK hG
    obtain rfl := φ.s3 (by simp [hpre])
    have L8 : L 8 = false := by
      cases h : L 8 with
      | false => rfl
      | true => simp [h, hL] at hcl
    refine hG (step_call wz rfl 13 #[.tmp 13] #[25] rfl #[.slice A n c] (by simp [Act.eval, Act.puts, Act.put]) (enters_of Try.func13 (by kernel_rfl) rfl) (cC wz φ.b) ?_)
    rintro e w9 ⟨v', rfl, ownN, hb9⟩
    refine ⟨v', rfl, ?_⟩
    have hk := hK [u10, u11, u12, (.slice A n c), (v'), u15, u16, u17, u18, u7] w9 ⟨_, _, _, _, _, _, _, _, _, _, w9, rfl,
      { b := φ.b.trans (hb9.mono φ.b.size),
        s0 := fun h0 => φ.s0 (by simpa using h0),
        s1 := fun h0 => φ.s1 (by simpa using h0),
        s2 := fun h0 => φ.s2 (by simpa using h0),
        s3 := fun h0 => φ.s3 (by simpa using h0),
        s4 := fun _ => own_weaken' ownN φ.b.size,
        s5 := fun h0 => φ.s5 (by simpa using h0),
        s6 := fun h0 => φ.s6 (by simpa using h0),
        s7 := fun h => own_below (φ.s7 (by simpa using h)) hb9,
        s8 := fun h => by simp [L8] at h,
        x9 := fun h => by
          obtain ⟨X, y1, y2, y3, y4⟩ := φ.x9 (by simpa using h)
          exact ⟨X, y1, y2, Nat.lt_of_lt_of_le y3 hb9.size, (hb9.block X y3).trans y4⟩,
        d4 := fun h _ X hX hE => by
          obtain ⟨X', y1, y2, y3, _⟩ := φ.x9 (by simpa using h)
          rw [hX] at y1
          obtain rfl : X = X' := by simpa using y1
          have := (ownN.lt _ hE).1
          omega,
        d7 := fun h0 h1 => φ.d7 (by simpa using h0) (by simpa using h1) }, by simp [hst]⟩
    clear hK φ hG
    revert hk
    go_simp
    first | done | exact fun h => h
  case q5 =>
    rintro L vs w' K ⟨u10, u11, u12, u13, u14, u15, u16, u17, u18, u7, wz, rfl, φ, rfl⟩ hL hpre hcl hK G hG
    simp [Region.binds, closedFrom] at hpre hcl
    have hst : L 10 = false := by
      cases h : L 10 with
      | false => rfl
      | true => simp [h, hL] at hcl
    simp only [hst, Bool.false_eq_true, if_false] at hK hG
    have hk := hK [u10, u11, u12, u13, u14, (.pointer (some ⟨w.heap.size, 2, none⟩)), u16, u17, u18, u7] wz ⟨_, _, _, _, _, _, _, _, _, _, wz, rfl,
      { b := φ.b,
        s0 := fun h0 => φ.s0 (by simpa using h0),
        s1 := fun h0 => φ.s1 (by simpa using h0),
        s2 := fun h0 => φ.s2 (by simpa using h0),
        s3 := fun h0 => φ.s3 (by simpa using h0),
        s4 := fun h0 => φ.s4 (by simpa using h0),
        s5 := fun _ => rfl,
        s6 := fun h0 => φ.s6 (by simpa using h0),
        s7 := fun h0 => φ.s7 (by simpa using h0),
        s8 := fun h0 => φ.s8 (by simpa using h0),
        x9 := fun h0 => φ.x9 (by simpa using h0),
        d4 := fun h0 h1 => φ.d4 (by simpa using h0) (by simpa using h1),
        d7 := fun h0 h1 => φ.d7 (by simpa using h0) (by simpa using h1) }, by simp [hst]⟩
    refine hG ?_
    clear hK φ hG
    revert hk
    go_simp
    first | done | exact fun h => h
  case q6 =>
    rintro L vs w' K ⟨u10, u11, u12, u13, u14, u15, u16, u17, u18, u7, wz, rfl, φ, rfl⟩ hL hpre hcl hK G hG
    simp [Region.binds, closedFrom] at hpre hcl
    have hst : L 10 = false := by
      cases h : L 10 with
      | false => rfl
      | true => simp [h, hL] at hcl
    simp only [hst, Bool.false_eq_true, if_false] at hK hG
    obtain rfl := φ.s5 (by simp [hpre])
    have ce := (φ.b.cell (p := ⟨w.heap.size, 2, none⟩) ltB).trans e2
    have hk := hK [u10, u11, u12, u13, u14, (.pointer (some ⟨w.heap.size, 2, none⟩)), (.slice B m d), u17, u18, u7] wz ⟨_, _, _, _, _, _, _, _, _, _, wz, rfl,
      { b := φ.b,
        s0 := fun h0 => φ.s0 (by simpa using h0),
        s1 := fun h0 => φ.s1 (by simpa using h0),
        s2 := fun h0 => φ.s2 (by simpa using h0),
        s3 := fun h0 => φ.s3 (by simpa using h0),
        s4 := fun h0 => φ.s4 (by simpa using h0),
        s5 := fun h0 => φ.s5 (by simpa using h0),
        s6 := fun _ => rfl,
        s7 := fun h0 => φ.s7 (by simpa using h0),
        s8 := fun h0 => φ.s8 (by simpa using h0),
        x9 := fun h0 => φ.x9 (by simpa using h0),
        d4 := fun h0 h1 => φ.d4 (by simpa using h0) (by simpa using h1),
        d7 := fun h0 h1 => φ.d7 (by simpa using h0) (by simpa using h1) }, by simp [hst]⟩
    refine hG ?_
    clear hK φ hG
    revert hk
    go_simp
    first | done | exact fun h => h
  case q7 =>
    rintro L vs w' K ⟨u10, u11, u12, u13, u14, u15, u16, u17, u18, u7, wz, rfl, φ, rfl⟩ hL hpre hcl hK G hG
    simp [Region.binds, closedFrom] at hpre hcl
    have hst : L 10 = false := by
      cases h : L 10 with
      | false => rfl
      | true => simp [h, hL] at hcl
    simp only [hst, Bool.false_eq_true, if_false] at hK hG
    obtain rfl := φ.s6 (by simp [hpre])
    have L8 : L 8 = false := by
      cases h : L 8 with
      | false => rfl
      | true => simp [h, hL] at hcl
    refine hG (step_call wz rfl 14 #[.tmp 16] #[22] rfl #[.slice B m d] (by simp [Act.eval, Act.puts, Act.put]) (enters_of Try.func14 (by kernel_rfl) rfl) (cW wz φ.b) ?_)
    rintro e w9 ⟨v', rfl, ownN, hb9⟩
    refine ⟨v', rfl, ?_⟩
    have hk := hK [u10, u11, u12, u13, u14, u15, (.slice B m d), (v'), u18, u7] w9 ⟨_, _, _, _, _, _, _, _, _, _, w9, rfl,
      { b := φ.b.trans (hb9.mono φ.b.size),
        s0 := fun h0 => φ.s0 (by simpa using h0),
        s1 := fun h0 => φ.s1 (by simpa using h0),
        s2 := fun h0 => φ.s2 (by simpa using h0),
        s3 := fun h0 => φ.s3 (by simpa using h0),
        s4 := fun h => own_below (φ.s4 (by simpa using h)) hb9,
        s5 := fun h0 => φ.s5 (by simpa using h0),
        s6 := fun h0 => φ.s6 (by simpa using h0),
        s7 := fun _ => own_weaken' ownN φ.b.size,
        s8 := fun h => by simp [L8] at h,
        x9 := fun h => by
          obtain ⟨X, y1, y2, y3, y4⟩ := φ.x9 (by simpa using h)
          exact ⟨X, y1, y2, Nat.lt_of_lt_of_le y3 hb9.size, (hb9.block X y3).trans y4⟩,
        d4 := fun h0 h1 => φ.d4 (by simpa using h0) (by simpa using h1),
        d7 := fun h _ X hX hE => by
          obtain ⟨X', y1, y2, y3, _⟩ := φ.x9 (by simpa using h)
          rw [hX] at y1
          obtain rfl : X = X' := by simpa using y1
          have := (ownN.lt _ hE).1
          omega }, by simp [hst]⟩
    clear hK φ hG
    revert hk
    go_simp
    first | done | exact fun h => h
  case q8 =>
    rintro L vs w' K ⟨u10, u11, u12, u13, u14, u15, u16, u17, u18, u7, wz, rfl, φ, rfl⟩ hL hpre hcl hK G hG
    simp [Region.binds, closedFrom] at hpre hcl
    have hst : L 10 = false := by
      cases h : L 10 with
      | false => rfl
      | true => simp [h, hL] at hcl
    simp only [hst, Bool.false_eq_true, if_false] at hK hG
    obtain rfl := φ.s1 (by simp [hpre])
    obtain ⟨A3, c3, rfl⟩ := own_shape (φ.s4 (by simp [hpre]))
    obtain ⟨B3, d3, rfl⟩ := own_shape (φ.s7 (by simp [hpre]))
    have hk := hK [u10, (.int .i64 g.next), u12, u13, (.slice A3 n c3), u15, u16, (.slice B3 m d3), (.agg #[.int .i64 g.next, .slice A3 n c3, .slice B3 m d3]), u7] wz ⟨_, _, _, _, _, _, _, _, _, _, wz, rfl,
      { b := φ.b,
        s0 := fun h0 => φ.s0 (by simpa using h0),
        s1 := fun h0 => φ.s1 (by simpa using h0),
        s2 := fun h0 => φ.s2 (by simpa using h0),
        s3 := fun h0 => φ.s3 (by simpa using h0),
        s4 := fun h0 => φ.s4 (by simpa using h0),
        s5 := fun h0 => φ.s5 (by simpa using h0),
        s6 := fun h0 => φ.s6 (by simpa using h0),
        s7 := fun h0 => φ.s7 (by simpa using h0),
        s8 := fun _ => rfl,
        x9 := fun h0 => φ.x9 (by simpa using h0),
        d4 := fun h0 h1 => φ.d4 (by simpa using h0) (by simpa using h1),
        d7 := fun h0 h1 => φ.d7 (by simpa using h0) (by simpa using h1) }, by simp [hst]⟩
    refine hG ?_
    clear hK φ hG
    revert hk
    go_simp
    first | done | exact fun h => h
  case q9 =>
    rintro L vs w' K ⟨u10, u11, u12, u13, u14, u15, u16, u17, u18, u7, wz, rfl, φ, rfl⟩ hL hpre hcl hK G hG
    simp [Region.binds, closedFrom] at hpre hcl
    have hst : L 10 = false := by
      cases h : L 10 with
      | false => rfl
      | true => simp [h, hL] at hcl
    simp only [hst, Bool.false_eq_true, if_false] at hK hG
    have hk := hK [u10, u11, u12, u13, u14, u15, u16, u17, u18, (.pointer (some ⟨wz.heap.size, 0, none⟩))] (wz.alloc (.cells #[.int .i64 0, .slice none 0 0, .slice none 0 0] 29)) ⟨_, _, _, _, _, _, _, _, _, _, (wz.alloc (.cells #[.int .i64 0, .slice none 0 0, .slice none 0 0] 29)), rfl,
      { b := φ.b.alloc φ.b.size _,
        s0 := fun h0 => φ.s0 (by simpa using h0),
        s1 := fun h0 => φ.s1 (by simpa using h0),
        s2 := fun h0 => φ.s2 (by simpa using h0),
        s3 := fun h0 => φ.s3 (by simpa using h0),
        s4 := fun h0 => (φ.s4 (by simpa using h0)).alloc _,
        s5 := fun h0 => φ.s5 (by simpa using h0),
        s6 := fun h0 => φ.s6 (by simpa using h0),
        s7 := fun h0 => (φ.s7 (by simpa using h0)).alloc _,
        s8 := fun h0 => φ.s8 (by simpa using h0),
        x9 := fun _ => ⟨wz.heap.size, rfl, φ.b.size, by simp, heap_alloc_new wz _⟩,
        d4 := fun _ h0 X hX e => by
          obtain rfl : wz.heap.size = X := by simpa using hX
          exact Nat.lt_irrefl _ ((φ.s4 (by simpa using h0)).lt _ e).2,
        d7 := fun _ h0 X hX e => by
          obtain rfl : wz.heap.size = X := by simpa using hX
          exact Nat.lt_irrefl _ ((φ.s7 (by simpa using h0)).lt _ e).2 }, by simp [hst]⟩
    refine hG ?_
    clear hK φ hG
    revert hk
    go_simp
    first | done | exact fun h => h
  case q10 =>
    rintro L vs w' K ⟨u10, u11, u12, u13, u14, u15, u16, u17, u18, u7, wz, rfl, φ, rfl⟩ hL hpre hcl hK G hG
    simp [Region.binds, closedFrom] at hpre hcl
    simp only [hL, Bool.false_eq_true, if_false] at hK hG
    obtain ⟨A3, c3, rfl⟩ := own_shape (φ.s4 (by simp [hpre]))
    obtain ⟨B3, d3, rfl⟩ := own_shape (φ.s7 (by simp [hpre]))
    obtain rfl := φ.s8 (by simp [hpre])
    obtain ⟨X, rfl, x2, x3, x4⟩ := φ.x9 (by simp [hpre])
    obtain ⟨y0, y1, y2, z0, z1, z2⟩ := cells3 x4
    have hk := hK [u10, u11, u12, u13, (.slice A3 n c3), u15, u16, (.slice B3 m d3), (.agg #[.int .i64 g.next, .slice A3 n c3, .slice B3 m d3]), (.pointer (some ⟨X, 0, none⟩))] (((wz.setCell ⟨X, 0, none⟩ (.int .i64 g.next)).setCell ⟨X, 1, none⟩ (.slice A3 n c3)).setCell ⟨X, 2, none⟩ (.slice B3 m d3)) ⟨_, _, _, _, _, _, _, _, _, _, wz, rfl,
      { b := φ.b,
        s0 := fun h0 => φ.s0 (by simpa using h0),
        s1 := fun h0 => φ.s1 (by simpa using h0),
        s2 := fun h0 => φ.s2 (by simpa using h0),
        s3 := fun h0 => φ.s3 (by simpa using h0),
        s4 := fun h0 => φ.s4 (by simpa using h0),
        s5 := fun h0 => φ.s5 (by simpa using h0),
        s6 := fun h0 => φ.s6 (by simpa using h0),
        s7 := fun h0 => φ.s7 (by simpa using h0),
        s8 := fun h0 => φ.s8 (by simpa using h0),
        x9 := fun h0 => φ.x9 (by simpa using h0),
        d4 := fun h0 h1 => φ.d4 (by simpa using h0) (by simpa using h1),
        d7 := fun h0 h1 => φ.d7 (by simpa using h0) (by simpa using h1) }, by simp [laid3]⟩
    refine hG ?_
    clear hK φ hG
    revert hk
    go_simp
    first | done | exact fun h => h
  case hend =>
    rintro vs w' ⟨u10, u11, u12, u13, u14, u15, u16, u17, u18, u7, wz, rfl, φ, rfl⟩ G hG
    have o4 := φ.s4 rfl
    have o7 := φ.s7 rfl
    have b9 := φ.b
    obtain ⟨A3, c3, rfl⟩ := own_shape o4
    obtain ⟨B3, d3, rfl⟩ := own_shape o7
    obtain ⟨X7, rfl, x2, x3, x4⟩ := φ.x9 rfl
    obtain ⟨y0, y1, y2, z0, z1, z2⟩ := cells3 x4
    have ne7 := φ.d4 rfl rfl X7 rfl
    have ne8 := φ.d7 rfl rfl X7 rfl
    clear φ
    have hst : decide (10 < 11) = true := rfl
    simp only [List.size_toArray, List.length_cons, List.length_nil, Nat.zero_add, Nat.reduceAdd, hst, if_true, laid3] at hG
    have CP := copied3 (g := g) (n := n) (m := m) (A := A3) (c := c3) (B := B3) (d := d3) y0 y1 y2 z0 z1 z2 x2 x3 o4 o7 ne7 ne8 b9
    clear hst o4 o7 b9 x2 x3 x4 y0 y1 y2 z0 z1 z2 ne7 ne8
    refine hG ?_
    clear hG
    generalize ((wz.setCell ⟨X7, 0, none⟩ (.int .i64 g.next)).setCell ⟨X7, 1, none⟩ (.slice A3 n c3)).setCell ⟨X7, 2, none⟩ (.slice B3 m d3) = w2 at *
    obtain ⟨x0, x1, x2, f0, f1, f2, lo, hi, own, ownC, ne, neC, b9⟩ := CP
    have qP : w.heap.size + 1 + 1 < X7 := Nat.lt_of_lt_of_le ltR lo
    have loS : w.heap.size + 3 ≤ W0.drew.heap.size := by omega
    replace e0 := (b9.cell (p := ⟨w.heap.size, 0, none⟩) (World.block_lt_of_cell? _ _ e0)).trans e0
    replace e1 := (b9.cell (p := ⟨w.heap.size, 1, none⟩) (World.block_lt_of_cell? _ _ e1)).trans e1
    replace e2 := (b9.cell (p := ⟨w.heap.size, 2, none⟩) (World.block_lt_of_cell? _ _ e2)).trans e2
    replace p0 := (b9.cell (p := ⟨w.heap.size + 1, 0, none⟩) (World.block_lt_of_cell? _ _ p0)).trans p0
    replace p1 := (b9.cell (p := ⟨w.heap.size + 1, 1, none⟩) (World.block_lt_of_cell? _ _ p1)).trans p1
    replace r0 := (b9.cell (p := ⟨w.heap.size + 1 + 1, 0, none⟩) (World.block_lt_of_cell? _ _ r0)).trans r0
    replace r1 := (b9.cell (p := ⟨w.heap.size + 1 + 1, 1, none⟩) (World.block_lt_of_cell? _ _ r1)).trans r1
    replace r2 := (b9.cell (p := ⟨w.heap.size + 1 + 1, 2, none⟩) (World.block_lt_of_cell? _ _ r2)).trans r2
    replace fr0 := (b9.frozen (p := ⟨w.heap.size + 1 + 1, 0, none⟩) ltR).trans fr0
    replace fr1 := (b9.frozen (p := ⟨w.heap.size + 1 + 1, 1, none⟩) ltR).trans fr1
    replace fr2 := (b9.frozen (p := ⟨w.heap.size + 1 + 1, 2, none⟩) ltR).trans fr2
    replace ltB := Nat.lt_of_lt_of_le ltB b9.size
    replace ltP := Nat.lt_of_lt_of_le ltP b9.size
    replace ltR := Nat.lt_of_lt_of_le ltR b9.size
    replace b0 := b0.trans (b9.mono b0.size)
    clear b9 cC cW
    go_wp2_with fail
    refine (cR _ b0).mono ?_
    rintro e w3 ⟨rfl, hb3⟩
    replace e0 := (hb3.cell (p := ⟨w.heap.size, 0, none⟩) (World.block_lt_of_cell? _ _ e0)).trans e0
    replace e1 := (hb3.cell (p := ⟨w.heap.size, 1, none⟩) (World.block_lt_of_cell? _ _ e1)).trans e1
    replace e2 := (hb3.cell (p := ⟨w.heap.size, 2, none⟩) (World.block_lt_of_cell? _ _ e2)).trans e2
    replace p0 := (hb3.cell (p := ⟨w.heap.size + 1, 0, none⟩) (World.block_lt_of_cell? _ _ p0)).trans p0
    replace p1 := (hb3.cell (p := ⟨w.heap.size + 1, 1, none⟩) (World.block_lt_of_cell? _ _ p1)).trans p1
    replace r0 := (hb3.cell (p := ⟨w.heap.size + 1 + 1, 0, none⟩) (World.block_lt_of_cell? _ _ r0)).trans r0
    replace r1 := (hb3.cell (p := ⟨w.heap.size + 1 + 1, 1, none⟩) (World.block_lt_of_cell? _ _ r1)).trans r1
    replace r2 := (hb3.cell (p := ⟨w.heap.size + 1 + 1, 2, none⟩) (World.block_lt_of_cell? _ _ r2)).trans r2
    replace x0 := (hb3.cell (p := ⟨X7, 0, none⟩) (World.block_lt_of_cell? _ _ x0)).trans x0
    replace x1 := (hb3.cell (p := ⟨X7, 1, none⟩) (World.block_lt_of_cell? _ _ x1)).trans x1
    replace x2 := (hb3.cell (p := ⟨X7, 2, none⟩) (World.block_lt_of_cell? _ _ x2)).trans x2
    replace fr0 := (hb3.frozen (p := ⟨w.heap.size + 1 + 1, 0, none⟩) ltR).trans fr0
    replace fr1 := (hb3.frozen (p := ⟨w.heap.size + 1 + 1, 1, none⟩) ltR).trans fr1
    replace fr2 := (hb3.frozen (p := ⟨w.heap.size + 1 + 1, 2, none⟩) ltR).trans fr2
    replace f0 := (hb3.frozen (p := ⟨X7, 0, none⟩) hi).trans f0
    replace f1 := (hb3.frozen (p := ⟨X7, 1, none⟩) hi).trans f1
    replace f2 := (hb3.frozen (p := ⟨X7, 2, none⟩) hi).trans f2
    replace ltB := Nat.lt_of_lt_of_le ltB hb3.size
    replace ltP := Nat.lt_of_lt_of_le ltP hb3.size
    replace ltR := Nat.lt_of_lt_of_le ltR hb3.size
    replace hi := Nat.lt_of_lt_of_le hi hb3.size
    replace own := own_below own hb3
    replace ownC := own_below ownC hb3
    replace b0 := b0.trans (hb3.mono b0.size)
    clear hb3 cR
    have sE0 := Sl.of_own Pce.enc_len own HN.out
    go_wp2_with fail
    refine (cS _ _ _ sE0).mono ?_
    rintro e w4 ⟨ii, hst, rfl, hb4⟩
    have HST := Lib.hid hst
    have hil := hst.le
    clear hst cS sE0
    generalize decide (ii < g.early.length ∧ g.early[ii]!.num = p.num) = bb
    replace e0 := (hb4.cell (p := ⟨w.heap.size, 0, none⟩) (World.block_lt_of_cell? _ _ e0)).trans e0
    replace e1 := (hb4.cell (p := ⟨w.heap.size, 1, none⟩) (World.block_lt_of_cell? _ _ e1)).trans e1
    replace e2 := (hb4.cell (p := ⟨w.heap.size, 2, none⟩) (World.block_lt_of_cell? _ _ e2)).trans e2
    replace p0 := (hb4.cell (p := ⟨w.heap.size + 1, 0, none⟩) (World.block_lt_of_cell? _ _ p0)).trans p0
    replace p1 := (hb4.cell (p := ⟨w.heap.size + 1, 1, none⟩) (World.block_lt_of_cell? _ _ p1)).trans p1
    replace r0 := (hb4.cell (p := ⟨w.heap.size + 1 + 1, 0, none⟩) (World.block_lt_of_cell? _ _ r0)).trans r0
    replace r1 := (hb4.cell (p := ⟨w.heap.size + 1 + 1, 1, none⟩) (World.block_lt_of_cell? _ _ r1)).trans r1
    replace r2 := (hb4.cell (p := ⟨w.heap.size + 1 + 1, 2, none⟩) (World.block_lt_of_cell? _ _ r2)).trans r2
    replace x0 := (hb4.cell (p := ⟨X7, 0, none⟩) (World.block_lt_of_cell? _ _ x0)).trans x0
    replace x1 := (hb4.cell (p := ⟨X7, 1, none⟩) (World.block_lt_of_cell? _ _ x1)).trans x1
    replace x2 := (hb4.cell (p := ⟨X7, 2, none⟩) (World.block_lt_of_cell? _ _ x2)).trans x2
    replace fr0 := (hb4.frozen (p := ⟨w.heap.size + 1 + 1, 0, none⟩) ltR).trans fr0
    replace fr1 := (hb4.frozen (p := ⟨w.heap.size + 1 + 1, 1, none⟩) ltR).trans fr1
    replace fr2 := (hb4.frozen (p := ⟨w.heap.size + 1 + 1, 2, none⟩) ltR).trans fr2
    replace f0 := (hb4.frozen (p := ⟨X7, 0, none⟩) hi).trans f0
    replace f1 := (hb4.frozen (p := ⟨X7, 1, none⟩) hi).trans f1
    replace f2 := (hb4.frozen (p := ⟨X7, 2, none⟩) hi).trans f2
    replace ltB := Nat.lt_of_lt_of_le ltB hb4.size
    replace ltP := Nat.lt_of_lt_of_le ltP hb4.size
    replace ltR := Nat.lt_of_lt_of_le ltR hb4.size
    replace hi := Nat.lt_of_lt_of_le hi hb4.size
    replace own := own_below own hb4
    replace ownC := own_below ownC hb4
    replace b0 := b0.trans (hb4.mono b0.size)
    clear hb4
    have sE := Sl.of_own Pce.enc_len own HN.out
    have sC := Sl.of_own Wrd.enc_len ownC HM.out
    have fA : ∀ a, A3 = some a → w.heap.size + 3 ≤ a.block := own_fresh own loS
    have fB : ∀ a, B3 = some a → w.heap.size + 3 ≤ a.block := own_fresh ownC loS
    clear own ownC
    go_wp2_with fail
    go_region
    go_wp2_with fail
    exact bodyPost_ret (v := .tuple #[.agg #[.int .i64 g.next, .slice A3 n c3, .slice B3 m d3], .int .i64 g.next, .int .i64 0]) (by simp [results, Try.results7, go_sem, r0, r1, r2]) rfl (gaveG_ret HN.out HM.out sE sC fA fB b0)

set_option maxHeartbeats 16000000 in
theorem get_there (A B : Option Addr) (c d n m : Nat) (g : Gtr) (p : Pce) (w : World) (hs : Sl 2 Pce.enc w A g.early) (hc : Sl 1 Wrd.enc w B g.came) (hn : g.early.length = n) (hm : g.came.length = m) (hn1 : n ≤ 1000000) (hm1 : m ≤ 1000000)
    (hr : gRight g = true) (hp : 0 ≤ p.num) (hp9 : p.num ≤ 9223372036854775807) (hM : g.next ≠ 1099511627776) (hl : g.next ≤ p.num) (hh : p.num < g.next + 16) (ht : thereG g.early p.num = true) :
    Calls Try.prog 7 #[.agg #[.int .i64 g.next, .slice A n c, .slice B m d], .agg #[.int .i64 p.num, .int .u32 p.val]] w (GaveG w g g.next 0) := by
  have b0 : Below w.heap.size w (((w.alloc (.cells #[.int .i64 g.next, .slice A n c, .slice B m d] 29)).alloc (.cells #[.int .i64 p.num, .int .u32 p.val] 34)).alloc (.cells #[.int .i64 0, .slice none 0 0, .slice none 0 0] 29)).drew := ((((Below.refl _ _).alloc (Nat.le_refl _) _).alloc (by simp) _).alloc (by simp <;> omega) _).drew
  have e0 : (((w.alloc (.cells #[.int .i64 g.next, .slice A n c, .slice B m d] 29)).alloc (.cells #[.int .i64 p.num, .int .u32 p.val] 34)).alloc (.cells #[.int .i64 0, .slice none 0 0, .slice none 0 0] 29)).drew.cell? ⟨w.heap.size, 0, none⟩ = some (.int .i64 g.next) := by go_simp
  have e1 : (((w.alloc (.cells #[.int .i64 g.next, .slice A n c, .slice B m d] 29)).alloc (.cells #[.int .i64 p.num, .int .u32 p.val] 34)).alloc (.cells #[.int .i64 0, .slice none 0 0, .slice none 0 0] 29)).drew.cell? ⟨w.heap.size, 1, none⟩ = some (.slice A n c) := by go_simp
  have e2 : (((w.alloc (.cells #[.int .i64 g.next, .slice A n c, .slice B m d] 29)).alloc (.cells #[.int .i64 p.num, .int .u32 p.val] 34)).alloc (.cells #[.int .i64 0, .slice none 0 0, .slice none 0 0] 29)).drew.cell? ⟨w.heap.size, 2, none⟩ = some (.slice B m d) := by go_simp
  have p0 : (((w.alloc (.cells #[.int .i64 g.next, .slice A n c, .slice B m d] 29)).alloc (.cells #[.int .i64 p.num, .int .u32 p.val] 34)).alloc (.cells #[.int .i64 0, .slice none 0 0, .slice none 0 0] 29)).drew.cell? ⟨w.heap.size + 1, 0, none⟩ = some (.int .i64 p.num) := by go_simp
  have p1 : (((w.alloc (.cells #[.int .i64 g.next, .slice A n c, .slice B m d] 29)).alloc (.cells #[.int .i64 p.num, .int .u32 p.val] 34)).alloc (.cells #[.int .i64 0, .slice none 0 0, .slice none 0 0] 29)).drew.cell? ⟨w.heap.size + 1, 1, none⟩ = some (.int .u32 p.val) := by go_simp
  have r0 : (((w.alloc (.cells #[.int .i64 g.next, .slice A n c, .slice B m d] 29)).alloc (.cells #[.int .i64 p.num, .int .u32 p.val] 34)).alloc (.cells #[.int .i64 0, .slice none 0 0, .slice none 0 0] 29)).drew.cell? ⟨w.heap.size + 1 + 1, 0, none⟩ = some (.int .i64 0) := by go_simp
  have r1 : (((w.alloc (.cells #[.int .i64 g.next, .slice A n c, .slice B m d] 29)).alloc (.cells #[.int .i64 p.num, .int .u32 p.val] 34)).alloc (.cells #[.int .i64 0, .slice none 0 0, .slice none 0 0] 29)).drew.cell? ⟨w.heap.size + 1 + 1, 1, none⟩ = some (.slice none 0 0) := by go_simp
  have r2 : (((w.alloc (.cells #[.int .i64 g.next, .slice A n c, .slice B m d] 29)).alloc (.cells #[.int .i64 p.num, .int .u32 p.val] 34)).alloc (.cells #[.int .i64 0, .slice none 0 0, .slice none 0 0] 29)).drew.cell? ⟨w.heap.size + 1 + 1, 2, none⟩ = some (.slice none 0 0) := by go_simp
  have fr0 : (((w.alloc (.cells #[.int .i64 g.next, .slice A n c, .slice B m d] 29)).alloc (.cells #[.int .i64 p.num, .int .u32 p.val] 34)).alloc (.cells #[.int .i64 0, .slice none 0 0, .slice none 0 0] 29)).drew.frozen? ⟨w.heap.size + 1 + 1, 0, none⟩ = false := by go_simp
  have fr1 : (((w.alloc (.cells #[.int .i64 g.next, .slice A n c, .slice B m d] 29)).alloc (.cells #[.int .i64 p.num, .int .u32 p.val] 34)).alloc (.cells #[.int .i64 0, .slice none 0 0, .slice none 0 0] 29)).drew.frozen? ⟨w.heap.size + 1 + 1, 1, none⟩ = false := by go_simp
  have fr2 : (((w.alloc (.cells #[.int .i64 g.next, .slice A n c, .slice B m d] 29)).alloc (.cells #[.int .i64 p.num, .int .u32 p.val] 34)).alloc (.cells #[.int .i64 0, .slice none 0 0, .slice none 0 0] 29)).drew.frozen? ⟨w.heap.size + 1 + 1, 2, none⟩ = false := by go_simp
  have ltB : w.heap.size < (((w.alloc (.cells #[.int .i64 g.next, .slice A n c, .slice B m d] 29)).alloc (.cells #[.int .i64 p.num, .int .u32 p.val] 34)).alloc (.cells #[.int .i64 0, .slice none 0 0, .slice none 0 0] 29)).drew.heap.size := by simp <;> omega
  have ltP : w.heap.size + 1 < (((w.alloc (.cells #[.int .i64 g.next, .slice A n c, .slice B m d] 29)).alloc (.cells #[.int .i64 p.num, .int .u32 p.val] 34)).alloc (.cells #[.int .i64 0, .slice none 0 0, .slice none 0 0] 29)).drew.heap.size := by simp <;> omega
  have ltR : w.heap.size + 1 + 1 < (((w.alloc (.cells #[.int .i64 g.next, .slice A n c, .slice B m d] 29)).alloc (.cells #[.int .i64 p.num, .int .u32 p.val] 34)).alloc (.cells #[.int .i64 0, .slice none 0 0, .slice none 0 0] 29)).drew.heap.size := by simp <;> omega
  have cC := fun w1 (hb : Below (((w.alloc (.cells #[.int .i64 g.next, .slice A n c, .slice B m d] 29)).alloc (.cells #[.int .i64 p.num, .int .u32 p.val] 34)).alloc (.cells #[.int .i64 0, .slice none 0 0, .slice none 0 0] 29)).drew.heap.size (((w.alloc (.cells #[.int .i64 g.next, .slice A n c, .slice B m d] 29)).alloc (.cells #[.int .i64 p.num, .int .u32 p.val] 34)).alloc (.cells #[.int .i64 0, .slice none 0 0, .slice none 0 0] 29)).drew w1) => cloneP_any A c n g.early w1 (hs.below (b0.trans (hb.mono b0.size))) hn hn1
  have cW := fun w1 (hb : Below (((w.alloc (.cells #[.int .i64 g.next, .slice A n c, .slice B m d] 29)).alloc (.cells #[.int .i64 p.num, .int .u32 p.val] 34)).alloc (.cells #[.int .i64 0, .slice none 0 0, .slice none 0 0] 29)).drew.heap.size (((w.alloc (.cells #[.int .i64 g.next, .slice A n c, .slice B m d] 29)).alloc (.cells #[.int .i64 p.num, .int .u32 p.val] 34)).alloc (.cells #[.int .i64 0, .slice none 0 0, .slice none 0 0] 29)).drew w1) => cloneW_any B d m g.came w1 (hc.below (b0.trans (hb.mono b0.size))) hm hm1
  have cR := fun w1 (hb : Below w.heap.size w w1) => gRight_any A B c d n m g w1 (hs.below hb) hn
  obtain ⟨hg0, hg1, hnn, hge, hgl, hgs⟩ := gRight_facts hr
  have cS := fun (A' : Option Addr) (c' : Nat) w1 (h : Sl 2 Pce.enc w1 A' g.early) => search_any A' c' n g.early p.num w1 h hn hn1 hge hp hgl hp9 hgs
  rw [hr] at cR
  have zp : decide (p.num < 0) = false := decide_eq_false (by omega)
  have zM : (g.next == 1099511627776) = false := by rw [beq_eq_false_iff_ne]; exact hM
  clear hr hM hge hgl hgs hnn
  have zl : decide (p.num < g.next) = false := decide_eq_false (by omega)
  have zh : decide (g.next + 16 ≤ p.num) = false := decide_eq_false (by omega)
  have HT := Lib.hid ht
  clear hl hh ht
  have HN := Lib.hid hn
  have HM := Lib.hid hm
  clear hs hc hn hm
  go_enter Try.func7, Try.ntmps7
  go_wp2_with fail
  generalize (((w.alloc (.cells #[.int .i64 g.next, .slice A n c, .slice B m d] 29)).alloc (.cells #[.int .i64 p.num, .int .u32 p.val] 34)).alloc (.cells #[.int .i64 0, .slice none 0 0, .slice none 0 0] 29)) = W0 at *
  refine wp_region_rg (by kernel_rfl) (by kernel_rfl) [10, 11, 12, 13, 14, 15, 16, 17, 18, 7] (GetRPhi W0.drew w.heap.size A n c B m d g) ?h0 ⟨?q0, ?q1, ?q2, ?q3, ?q4, ?q5, ?q6, ?q7, ?q8, ?q9, ?q10, trivial⟩ ?hend
  case h0 => exact ⟨_, _, _, _, _, _, _, _, _, _, _, rfl, ⟨Below.refl _ _, (fun h => by cases h), (fun h => by cases h), (fun h => by cases h), (fun h => by cases h), (fun h => by cases h), (fun h => by cases h), (fun h => by cases h), (fun h => by cases h), (fun h => by cases h), (fun h => by cases h), (fun h => by cases h), (fun h => by cases h)⟩, rfl⟩
  case q0 =>
    rintro L vs w' K ⟨u10, u11, u12, u13, u14, u15, u16, u17, u18, u7, wz, rfl, φ, rfl⟩ hL hpre hcl hK G hG
    simp [Region.binds, closedFrom] at hpre hcl
    have hst : L 10 = false := by
      cases h : L 10 with
      | false => rfl
      | true => simp [h, hL] at hcl
    simp only [hst, Bool.false_eq_true, if_false] at hK hG
    have hk := hK [(.pointer (some ⟨w.heap.size, 0, none⟩)), u11, u12, u13, u14, u15, u16, u17, u18, u7] wz ⟨_, _, _, _, _, _, _, _, _, _, wz, rfl,
      { b := φ.b,
        s0 := fun _ => rfl,
        s1 := fun h0 => φ.s1 (by simpa using h0),
        s2 := fun h0 => φ.s2 (by simpa using h0),
        s3 := fun h0 => φ.s3 (by simpa using h0),
        s4 := fun h0 => φ.s4 (by simpa using h0),
        s5 := fun h0 => φ.s5 (by simpa using h0),
        s6 := fun h0 => φ.s6 (by simpa using h0),
        s7 := fun h0 => φ.s7 (by simpa using h0),
        s8 := fun h0 => φ.s8 (by simpa using h0),
        x9 := fun h0 => φ.x9 (by simpa using h0),
        d4 := fun h0 h1 => φ.d4 (by simpa using h0) (by simpa using h1),
        d7 := fun h0 h1 => φ.d7 (by simpa using h0) (by simpa using h1) }, by simp [hst]⟩
    refine hG ?_
    clear hK φ hG
    revert hk
    go_simp
    first | done | exact fun h => h
  case q1 =>
    rintro L vs w' K ⟨u10, u11, u12, u13, u14, u15, u16, u17, u18, u7, wz, rfl, φ, rfl⟩ hL hpre hcl hK G hG
    simp [Region.binds, closedFrom] at hpre hcl
    have hst : L 10 = false := by
      cases h : L 10 with
      | false => rfl
      | true => simp [h, hL] at hcl
    simp only [hst, Bool.false_eq_true, if_false] at hK hG
    obtain rfl := φ.s0 (by simp [hpre])
    have ce := (φ.b.cell (p := ⟨w.heap.size, 0, none⟩) ltB).trans e0
    have hk := hK [(.pointer (some ⟨w.heap.size, 0, none⟩)), (.int .i64 g.next), u12, u13, u14, u15, u16, u17, u18, u7] wz ⟨_, _, _, _, _, _, _, _, _, _, wz, rfl,
      { b := φ.b,
        s0 := fun h0 => φ.s0 (by simpa using h0),
        s1 := fun _ => rfl,
        s2 := fun h0 => φ.s2 (by simpa using h0),
        s3 := fun h0 => φ.s3 (by simpa using h0),
        s4 := fun h0 => φ.s4 (by simpa using h0),
        s5 := fun h0 => φ.s5 (by simpa using h0),
        s6 := fun h0 => φ.s6 (by simpa using h0),
        s7 := fun h0 => φ.s7 (by simpa using h0),
        s8 := fun h0 => φ.s8 (by simpa using h0),
        x9 := fun h0 => φ.x9 (by simpa using h0),
        d4 := fun h0 h1 => φ.d4 (by simpa using h0) (by simpa using h1),
        d7 := fun h0 h1 => φ.d7 (by simpa using h0) (by simpa using h1) }, by simp [hst]⟩
    refine hG ?_
    clear hK φ hG
    revert hk
    go_simp
    first | done | exact fun h => h
  case q2 =>
    rintro L vs w' K ⟨u10, u11, u12, u13, u14, u15, u16, u17, u18, u7, wz, rfl, φ, rfl⟩ hL hpre hcl hK G hG
    simp [Region.binds, closedFrom] at hpre hcl
    have hst : L 10 = false := by
      cases h : L 10 with
      | false => rfl
      | true => simp [h, hL] at hcl
    simp only [hst, Bool.false_eq_true, if_false] at hK hG
    have hk := hK [u10, u11, (.pointer (some ⟨w.heap.size, 1, none⟩)), u13, u14, u15, u16, u17, u18, u7] wz ⟨_, _, _, _, _, _, _, _, _, _, wz, rfl,
      { b := φ.b,
        s0 := fun h0 => φ.s0 (by simpa using h0),
        s1 := fun h0 => φ.s1 (by simpa using h0),
        s2 := fun _ => rfl,
        s3 := fun h0 => φ.s3 (by simpa using h0),
        s4 := fun h0 => φ.s4 (by simpa using h0),
        s5 := fun h0 => φ.s5 (by simpa using h0),
        s6 := fun h0 => φ.s6 (by simpa using h0),
        s7 := fun h0 => φ.s7 (by simpa using h0),
        s8 := fun h0 => φ.s8 (by simpa using h0),
        x9 := fun h0 => φ.x9 (by simpa using h0),
        d4 := fun h0 h1 => φ.d4 (by simpa using h0) (by simpa using h1),
        d7 := fun h0 h1 => φ.d7 (by simpa using h0) (by simpa using h1) }, by simp [hst]⟩
    refine hG ?_
    clear hK φ hG
    revert hk
    go_simp
    first | done | exact fun h => h
  case q3 =>
    rintro L vs w' K ⟨u10, u11, u12, u13, u14, u15, u16, u17, u18, u7, wz, rfl, φ, rfl⟩ hL hpre hcl hK G hG
    simp [Region.binds, closedFrom] at hpre hcl
    have hst : L 10 = false := by
      cases h : L 10 with
      | false => rfl
      | true => simp [h, hL] at hcl
    simp only [hst, Bool.false_eq_true, if_false] at hK hG
    obtain rfl := φ.s2 (by simp [hpre])
    have ce := (φ.b.cell (p := ⟨w.heap.size, 1, none⟩) ltB).trans e1
    have hk := hK [u10, u11, (.pointer (some ⟨w.heap.size, 1, none⟩)), (.slice A n c), u14, u15, u16, u17, u18, u7] wz ⟨_, _, _, _, _, _, _, _, _, _, wz, rfl,
      { b := φ.b,
        s0 := fun h0 => φ.s0 (by simpa using h0),
        s1 := fun h0 => φ.s1 (by simpa using h0),
        s2 := fun h0 => φ.s2 (by simpa using h0),
        s3 := fun _ => rfl,
        s4 := fun h0 => φ.s4 (by simpa using h0),
        s5 := fun h0 => φ.s5 (by simpa using h0),
        s6 := fun h0 => φ.s6 (by simpa using h0),
        s7 := fun h0 => φ.s7 (by simpa using h0),
        s8 := fun h0 => φ.s8 (by simpa using h0),
        x9 := fun h0 => φ.x9 (by simpa using h0),
        d4 := fun h0 h1 => φ.d4 (by simpa using h0) (by simpa using h1),
        d7 := fun h0 h1 => φ.d7 (by simpa using h0) (by simpa using h1) }, by simp [hst]⟩
    refine hG ?_
    clear hK φ hG
    revert hk
    go_simp
    first | done | exact fun h => h
  case q4 =>
    rintro L vs w' K ⟨u10, u11, u12, u13, u14, u15, u16, u17, u18, u7, wz, rfl, φ, rfl⟩ hL hpre hcl hK G hG
    simp [Region.binds, closedFrom] at hpre hcl
    have hst : L 10 = false := by
      cases h : L 10 with
      | false => rfl
      | true => simp [h, hL] at hcl
    simp only [hst, Bool.false_eq_true, if_false] at hK hG
    obtain rfl := φ.s3 (by simp [hpre])
    have L8 : L 8 = false := by
      cases h : L 8 with
      | false => rfl
      | true => simp [h, hL] at hcl
    refine hG (step_call wz rfl 13 #[.tmp 13] #[25] rfl #[.slice A n c] (by simp [Act.eval, Act.puts, Act.put]) (enters_of Try.func13 (by kernel_rfl) rfl) (cC wz φ.b) ?_)
    rintro e w9 ⟨v', rfl, ownN, hb9⟩
    refine ⟨v', rfl, ?_⟩
    have hk := hK [u10, u11, u12, (.slice A n c), (v'), u15, u16, u17, u18, u7] w9 ⟨_, _, _, _, _, _, _, _, _, _, w9, rfl,
      { b := φ.b.trans (hb9.mono φ.b.size),
        s0 := fun h0 => φ.s0 (by simpa using h0),
        s1 := fun h0 => φ.s1 (by simpa using h0),
        s2 := fun h0 => φ.s2 (by simpa using h0),
        s3 := fun h0 => φ.s3 (by simpa using h0),
        s4 := fun _ => own_weaken' ownN φ.b.size,
        s5 := fun h0 => φ.s5 (by simpa using h0),
        s6 := fun h0 => φ.s6 (by simpa using h0),
        s7 := fun h => own_below (φ.s7 (by simpa using h)) hb9,
        s8 := fun h => by simp [L8] at h,
        x9 := fun h => by
          obtain ⟨X, y1, y2, y3, y4⟩ := φ.x9 (by simpa using h)
          exact ⟨X, y1, y2, Nat.lt_of_lt_of_le y3 hb9.size, (hb9.block X y3).trans y4⟩,
        d4 := fun h _ X hX hE => by
          obtain ⟨X', y1, y2, y3, _⟩ := φ.x9 (by simpa using h)
          rw [hX] at y1
          obtain rfl : X = X' := by simpa using y1
          have := (ownN.lt _ hE).1
          omega,
        d7 := fun h0 h1 => φ.d7 (by simpa using h0) (by simpa using h1) }, by simp [hst]⟩
    clear hK φ hG
    revert hk
    go_simp
    first | done | exact fun h => h
  case q5 =>
    rintro L vs w' K ⟨u10, u11, u12, u13, u14, u15, u16, u17, u18, u7, wz, rfl, φ, rfl⟩ hL hpre hcl hK G hG
    simp [Region.binds, closedFrom] at hpre hcl
    have hst : L 10 = false := by
      cases h : L 10 with
      | false => rfl
      | true => simp [h, hL] at hcl
    simp only [hst, Bool.false_eq_true, if_false] at hK hG
    have hk := hK [u10, u11, u12, u13, u14, (.pointer (some ⟨w.heap.size, 2, none⟩)), u16, u17, u18, u7] wz ⟨_, _, _, _, _, _, _, _, _, _, wz, rfl,
      { b := φ.b,
        s0 := fun h0 => φ.s0 (by simpa using h0),
        s1 := fun h0 => φ.s1 (by simpa using h0),
        s2 := fun h0 => φ.s2 (by simpa using h0),
        s3 := fun h0 => φ.s3 (by simpa using h0),
        s4 := fun h0 => φ.s4 (by simpa using h0),
        s5 := fun _ => rfl,
        s6 := fun h0 => φ.s6 (by simpa using h0),
        s7 := fun h0 => φ.s7 (by simpa using h0),
        s8 := fun h0 => φ.s8 (by simpa using h0),
        x9 := fun h0 => φ.x9 (by simpa using h0),
        d4 := fun h0 h1 => φ.d4 (by simpa using h0) (by simpa using h1),
        d7 := fun h0 h1 => φ.d7 (by simpa using h0) (by simpa using h1) }, by simp [hst]⟩
    refine hG ?_
    clear hK φ hG
    revert hk
    go_simp
    first | done | exact fun h => h
  case q6 =>
    rintro L vs w' K ⟨u10, u11, u12, u13, u14, u15, u16, u17, u18, u7, wz, rfl, φ, rfl⟩ hL hpre hcl hK G hG
    simp [Region.binds, closedFrom] at hpre hcl
    have hst : L 10 = false := by
      cases h : L 10 with
      | false => rfl
      | true => simp [h, hL] at hcl
    simp only [hst, Bool.false_eq_true, if_false] at hK hG
    obtain rfl := φ.s5 (by simp [hpre])
    have ce := (φ.b.cell (p := ⟨w.heap.size, 2, none⟩) ltB).trans e2
    have hk := hK [u10, u11, u12, u13, u14, (.pointer (some ⟨w.heap.size, 2, none⟩)), (.slice B m d), u17, u18, u7] wz ⟨_, _, _, _, _, _, _, _, _, _, wz, rfl,
      { b := φ.b,
        s0 := fun h0 => φ.s0 (by simpa using h0),
        s1 := fun h0 => φ.s1 (by simpa using h0),
        s2 := fun h0 => φ.s2 (by simpa using h0),
        s3 := fun h0 => φ.s3 (by simpa using h0),
        s4 := fun h0 => φ.s4 (by simpa using h0),
        s5 := fun h0 => φ.s5 (by simpa using h0),
        s6 := fun _ => rfl,
        s7 := fun h0 => φ.s7 (by simpa using h0),
        s8 := fun h0 => φ.s8 (by simpa using h0),
        x9 := fun h0 => φ.x9 (by simpa using h0),
        d4 := fun h0 h1 => φ.d4 (by simpa using h0) (by simpa using h1),
        d7 := fun h0 h1 => φ.d7 (by simpa using h0) (by simpa using h1) }, by simp [hst]⟩
    refine hG ?_
    clear hK φ hG
    revert hk
    go_simp
    first | done | exact fun h => h
  case q7 =>
    rintro L vs w' K ⟨u10, u11, u12, u13, u14, u15, u16, u17, u18, u7, wz, rfl, φ, rfl⟩ hL hpre hcl hK G hG
    simp [Region.binds, closedFrom] at hpre hcl
    have hst : L 10 = false := by
      cases h : L 10 with
      | false => rfl
      | true => simp [h, hL] at hcl
    simp only [hst, Bool.false_eq_true, if_false] at hK hG
    obtain rfl := φ.s6 (by simp [hpre])
    have L8 : L 8 = false := by
      cases h : L 8 with
      | false => rfl
      | true => simp [h, hL] at hcl
    refine hG (step_call wz rfl 14 #[.tmp 16] #[22] rfl #[.slice B m d] (by simp [Act.eval, Act.puts, Act.put]) (enters_of Try.func14 (by kernel_rfl) rfl) (cW wz φ.b) ?_)
    rintro e w9 ⟨v', rfl, ownN, hb9⟩
    refine ⟨v', rfl, ?_⟩
    have hk := hK [u10, u11, u12, u13, u14, u15, (.slice B m d), (v'), u18, u7] w9 ⟨_, _, _, _, _, _, _, _, _, _, w9, rfl,
      { b := φ.b.trans (hb9.mono φ.b.size),
        s0 := fun h0 => φ.s0 (by simpa using h0),
        s1 := fun h0 => φ.s1 (by simpa using h0),
        s2 := fun h0 => φ.s2 (by simpa using h0),
        s3 := fun h0 => φ.s3 (by simpa using h0),
        s4 := fun h => own_below (φ.s4 (by simpa using h)) hb9,
        s5 := fun h0 => φ.s5 (by simpa using h0),
        s6 := fun h0 => φ.s6 (by simpa using h0),
        s7 := fun _ => own_weaken' ownN φ.b.size,
        s8 := fun h => by simp [L8] at h,
        x9 := fun h => by
          obtain ⟨X, y1, y2, y3, y4⟩ := φ.x9 (by simpa using h)
          exact ⟨X, y1, y2, Nat.lt_of_lt_of_le y3 hb9.size, (hb9.block X y3).trans y4⟩,
        d4 := fun h0 h1 => φ.d4 (by simpa using h0) (by simpa using h1),
        d7 := fun h _ X hX hE => by
          obtain ⟨X', y1, y2, y3, _⟩ := φ.x9 (by simpa using h)
          rw [hX] at y1
          obtain rfl : X = X' := by simpa using y1
          have := (ownN.lt _ hE).1
          omega }, by simp [hst]⟩
    clear hK φ hG
    revert hk
    go_simp
    first | done | exact fun h => h
  case q8 =>
    rintro L vs w' K ⟨u10, u11, u12, u13, u14, u15, u16, u17, u18, u7, wz, rfl, φ, rfl⟩ hL hpre hcl hK G hG
    simp [Region.binds, closedFrom] at hpre hcl
    have hst : L 10 = false := by
      cases h : L 10 with
      | false => rfl
      | true => simp [h, hL] at hcl
    simp only [hst, Bool.false_eq_true, if_false] at hK hG
    obtain rfl := φ.s1 (by simp [hpre])
    obtain ⟨A3, c3, rfl⟩ := own_shape (φ.s4 (by simp [hpre]))
    obtain ⟨B3, d3, rfl⟩ := own_shape (φ.s7 (by simp [hpre]))
    have hk := hK [u10, (.int .i64 g.next), u12, u13, (.slice A3 n c3), u15, u16, (.slice B3 m d3), (.agg #[.int .i64 g.next, .slice A3 n c3, .slice B3 m d3]), u7] wz ⟨_, _, _, _, _, _, _, _, _, _, wz, rfl,
      { b := φ.b,
        s0 := fun h0 => φ.s0 (by simpa using h0),
        s1 := fun h0 => φ.s1 (by simpa using h0),
        s2 := fun h0 => φ.s2 (by simpa using h0),
        s3 := fun h0 => φ.s3 (by simpa using h0),
        s4 := fun h0 => φ.s4 (by simpa using h0),
        s5 := fun h0 => φ.s5 (by simpa using h0),
        s6 := fun h0 => φ.s6 (by simpa using h0),
        s7 := fun h0 => φ.s7 (by simpa using h0),
        s8 := fun _ => rfl,
        x9 := fun h0 => φ.x9 (by simpa using h0),
        d4 := fun h0 h1 => φ.d4 (by simpa using h0) (by simpa using h1),
        d7 := fun h0 h1 => φ.d7 (by simpa using h0) (by simpa using h1) }, by simp [hst]⟩
    refine hG ?_
    clear hK φ hG
    revert hk
    go_simp
    first | done | exact fun h => h
  case q9 =>
    rintro L vs w' K ⟨u10, u11, u12, u13, u14, u15, u16, u17, u18, u7, wz, rfl, φ, rfl⟩ hL hpre hcl hK G hG
    simp [Region.binds, closedFrom] at hpre hcl
    have hst : L 10 = false := by
      cases h : L 10 with
      | false => rfl
      | true => simp [h, hL] at hcl
    simp only [hst, Bool.false_eq_true, if_false] at hK hG
    have hk := hK [u10, u11, u12, u13, u14, u15, u16, u17, u18, (.pointer (some ⟨wz.heap.size, 0, none⟩))] (wz.alloc (.cells #[.int .i64 0, .slice none 0 0, .slice none 0 0] 29)) ⟨_, _, _, _, _, _, _, _, _, _, (wz.alloc (.cells #[.int .i64 0, .slice none 0 0, .slice none 0 0] 29)), rfl,
      { b := φ.b.alloc φ.b.size _,
        s0 := fun h0 => φ.s0 (by simpa using h0),
        s1 := fun h0 => φ.s1 (by simpa using h0),
        s2 := fun h0 => φ.s2 (by simpa using h0),
        s3 := fun h0 => φ.s3 (by simpa using h0),
        s4 := fun h0 => (φ.s4 (by simpa using h0)).alloc _,
        s5 := fun h0 => φ.s5 (by simpa using h0),
        s6 := fun h0 => φ.s6 (by simpa using h0),
        s7 := fun h0 => (φ.s7 (by simpa using h0)).alloc _,
        s8 := fun h0 => φ.s8 (by simpa using h0),
        x9 := fun _ => ⟨wz.heap.size, rfl, φ.b.size, by simp, heap_alloc_new wz _⟩,
        d4 := fun _ h0 X hX e => by
          obtain rfl : wz.heap.size = X := by simpa using hX
          exact Nat.lt_irrefl _ ((φ.s4 (by simpa using h0)).lt _ e).2,
        d7 := fun _ h0 X hX e => by
          obtain rfl : wz.heap.size = X := by simpa using hX
          exact Nat.lt_irrefl _ ((φ.s7 (by simpa using h0)).lt _ e).2 }, by simp [hst]⟩
    refine hG ?_
    clear hK φ hG
    revert hk
    go_simp
    first | done | exact fun h => h
  case q10 =>
    rintro L vs w' K ⟨u10, u11, u12, u13, u14, u15, u16, u17, u18, u7, wz, rfl, φ, rfl⟩ hL hpre hcl hK G hG
    simp [Region.binds, closedFrom] at hpre hcl
    simp only [hL, Bool.false_eq_true, if_false] at hK hG
    obtain ⟨A3, c3, rfl⟩ := own_shape (φ.s4 (by simp [hpre]))
    obtain ⟨B3, d3, rfl⟩ := own_shape (φ.s7 (by simp [hpre]))
    obtain rfl := φ.s8 (by simp [hpre])
    obtain ⟨X, rfl, x2, x3, x4⟩ := φ.x9 (by simp [hpre])
    obtain ⟨y0, y1, y2, z0, z1, z2⟩ := cells3 x4
    have hk := hK [u10, u11, u12, u13, (.slice A3 n c3), u15, u16, (.slice B3 m d3), (.agg #[.int .i64 g.next, .slice A3 n c3, .slice B3 m d3]), (.pointer (some ⟨X, 0, none⟩))] (((wz.setCell ⟨X, 0, none⟩ (.int .i64 g.next)).setCell ⟨X, 1, none⟩ (.slice A3 n c3)).setCell ⟨X, 2, none⟩ (.slice B3 m d3)) ⟨_, _, _, _, _, _, _, _, _, _, wz, rfl,
      { b := φ.b,
        s0 := fun h0 => φ.s0 (by simpa using h0),
        s1 := fun h0 => φ.s1 (by simpa using h0),
        s2 := fun h0 => φ.s2 (by simpa using h0),
        s3 := fun h0 => φ.s3 (by simpa using h0),
        s4 := fun h0 => φ.s4 (by simpa using h0),
        s5 := fun h0 => φ.s5 (by simpa using h0),
        s6 := fun h0 => φ.s6 (by simpa using h0),
        s7 := fun h0 => φ.s7 (by simpa using h0),
        s8 := fun h0 => φ.s8 (by simpa using h0),
        x9 := fun h0 => φ.x9 (by simpa using h0),
        d4 := fun h0 h1 => φ.d4 (by simpa using h0) (by simpa using h1),
        d7 := fun h0 h1 => φ.d7 (by simpa using h0) (by simpa using h1) }, by simp [laid3]⟩
    refine hG ?_
    clear hK φ hG
    revert hk
    go_simp
    first | done | exact fun h => h
  case hend =>
    rintro vs w' ⟨u10, u11, u12, u13, u14, u15, u16, u17, u18, u7, wz, rfl, φ, rfl⟩ G hG
    have o4 := φ.s4 rfl
    have o7 := φ.s7 rfl
    have b9 := φ.b
    obtain ⟨A3, c3, rfl⟩ := own_shape o4
    obtain ⟨B3, d3, rfl⟩ := own_shape o7
    obtain ⟨X7, rfl, x2, x3, x4⟩ := φ.x9 rfl
    obtain ⟨y0, y1, y2, z0, z1, z2⟩ := cells3 x4
    have ne7 := φ.d4 rfl rfl X7 rfl
    have ne8 := φ.d7 rfl rfl X7 rfl
    clear φ
    have hst : decide (10 < 11) = true := rfl
    simp only [List.size_toArray, List.length_cons, List.length_nil, Nat.zero_add, Nat.reduceAdd, hst, if_true, laid3] at hG
    have CP := copied3 (g := g) (n := n) (m := m) (A := A3) (c := c3) (B := B3) (d := d3) y0 y1 y2 z0 z1 z2 x2 x3 o4 o7 ne7 ne8 b9
    clear hst o4 o7 b9 x2 x3 x4 y0 y1 y2 z0 z1 z2 ne7 ne8
    refine hG ?_
    clear hG
    generalize ((wz.setCell ⟨X7, 0, none⟩ (.int .i64 g.next)).setCell ⟨X7, 1, none⟩ (.slice A3 n c3)).setCell ⟨X7, 2, none⟩ (.slice B3 m d3) = w2 at *
    obtain ⟨x0, x1, x2, f0, f1, f2, lo, hi, own, ownC, ne, neC, b9⟩ := CP
    have qP : w.heap.size + 1 + 1 < X7 := Nat.lt_of_lt_of_le ltR lo
    have loS : w.heap.size + 3 ≤ W0.drew.heap.size := by omega
    replace e0 := (b9.cell (p := ⟨w.heap.size, 0, none⟩) (World.block_lt_of_cell? _ _ e0)).trans e0
    replace e1 := (b9.cell (p := ⟨w.heap.size, 1, none⟩) (World.block_lt_of_cell? _ _ e1)).trans e1
    replace e2 := (b9.cell (p := ⟨w.heap.size, 2, none⟩) (World.block_lt_of_cell? _ _ e2)).trans e2
    replace p0 := (b9.cell (p := ⟨w.heap.size + 1, 0, none⟩) (World.block_lt_of_cell? _ _ p0)).trans p0
    replace p1 := (b9.cell (p := ⟨w.heap.size + 1, 1, none⟩) (World.block_lt_of_cell? _ _ p1)).trans p1
    replace r0 := (b9.cell (p := ⟨w.heap.size + 1 + 1, 0, none⟩) (World.block_lt_of_cell? _ _ r0)).trans r0
    replace r1 := (b9.cell (p := ⟨w.heap.size + 1 + 1, 1, none⟩) (World.block_lt_of_cell? _ _ r1)).trans r1
    replace r2 := (b9.cell (p := ⟨w.heap.size + 1 + 1, 2, none⟩) (World.block_lt_of_cell? _ _ r2)).trans r2
    replace fr0 := (b9.frozen (p := ⟨w.heap.size + 1 + 1, 0, none⟩) ltR).trans fr0
    replace fr1 := (b9.frozen (p := ⟨w.heap.size + 1 + 1, 1, none⟩) ltR).trans fr1
    replace fr2 := (b9.frozen (p := ⟨w.heap.size + 1 + 1, 2, none⟩) ltR).trans fr2
    replace ltB := Nat.lt_of_lt_of_le ltB b9.size
    replace ltP := Nat.lt_of_lt_of_le ltP b9.size
    replace ltR := Nat.lt_of_lt_of_le ltR b9.size
    replace b0 := b0.trans (b9.mono b0.size)
    clear b9 cC cW
    go_wp2_with fail
    refine (cR _ b0).mono ?_
    rintro e w3 ⟨rfl, hb3⟩
    replace e0 := (hb3.cell (p := ⟨w.heap.size, 0, none⟩) (World.block_lt_of_cell? _ _ e0)).trans e0
    replace e1 := (hb3.cell (p := ⟨w.heap.size, 1, none⟩) (World.block_lt_of_cell? _ _ e1)).trans e1
    replace e2 := (hb3.cell (p := ⟨w.heap.size, 2, none⟩) (World.block_lt_of_cell? _ _ e2)).trans e2
    replace p0 := (hb3.cell (p := ⟨w.heap.size + 1, 0, none⟩) (World.block_lt_of_cell? _ _ p0)).trans p0
    replace p1 := (hb3.cell (p := ⟨w.heap.size + 1, 1, none⟩) (World.block_lt_of_cell? _ _ p1)).trans p1
    replace r0 := (hb3.cell (p := ⟨w.heap.size + 1 + 1, 0, none⟩) (World.block_lt_of_cell? _ _ r0)).trans r0
    replace r1 := (hb3.cell (p := ⟨w.heap.size + 1 + 1, 1, none⟩) (World.block_lt_of_cell? _ _ r1)).trans r1
    replace r2 := (hb3.cell (p := ⟨w.heap.size + 1 + 1, 2, none⟩) (World.block_lt_of_cell? _ _ r2)).trans r2
    replace x0 := (hb3.cell (p := ⟨X7, 0, none⟩) (World.block_lt_of_cell? _ _ x0)).trans x0
    replace x1 := (hb3.cell (p := ⟨X7, 1, none⟩) (World.block_lt_of_cell? _ _ x1)).trans x1
    replace x2 := (hb3.cell (p := ⟨X7, 2, none⟩) (World.block_lt_of_cell? _ _ x2)).trans x2
    replace fr0 := (hb3.frozen (p := ⟨w.heap.size + 1 + 1, 0, none⟩) ltR).trans fr0
    replace fr1 := (hb3.frozen (p := ⟨w.heap.size + 1 + 1, 1, none⟩) ltR).trans fr1
    replace fr2 := (hb3.frozen (p := ⟨w.heap.size + 1 + 1, 2, none⟩) ltR).trans fr2
    replace f0 := (hb3.frozen (p := ⟨X7, 0, none⟩) hi).trans f0
    replace f1 := (hb3.frozen (p := ⟨X7, 1, none⟩) hi).trans f1
    replace f2 := (hb3.frozen (p := ⟨X7, 2, none⟩) hi).trans f2
    replace ltB := Nat.lt_of_lt_of_le ltB hb3.size
    replace ltP := Nat.lt_of_lt_of_le ltP hb3.size
    replace ltR := Nat.lt_of_lt_of_le ltR hb3.size
    replace hi := Nat.lt_of_lt_of_le hi hb3.size
    replace own := own_below own hb3
    replace ownC := own_below ownC hb3
    replace b0 := b0.trans (hb3.mono b0.size)
    clear hb3 cR
    have sE0 := Sl.of_own Pce.enc_len own HN.out
    go_wp2_with fail
    refine (cS _ _ _ sE0).mono ?_
    rintro e w4 ⟨ii, hst, rfl, hb4⟩
    have HST := Lib.hid hst
    have hil := hst.le
    clear hst cS sE0
    obtain rfl := stands_pos HST.out
    have htt : decide (posG g.early p.num < g.early.length ∧ g.early[posG g.early p.num]!.num = p.num) = true := HT.out
    rw [htt]
    clear htt
    replace e0 := (hb4.cell (p := ⟨w.heap.size, 0, none⟩) (World.block_lt_of_cell? _ _ e0)).trans e0
    replace e1 := (hb4.cell (p := ⟨w.heap.size, 1, none⟩) (World.block_lt_of_cell? _ _ e1)).trans e1
    replace e2 := (hb4.cell (p := ⟨w.heap.size, 2, none⟩) (World.block_lt_of_cell? _ _ e2)).trans e2
    replace p0 := (hb4.cell (p := ⟨w.heap.size + 1, 0, none⟩) (World.block_lt_of_cell? _ _ p0)).trans p0
    replace p1 := (hb4.cell (p := ⟨w.heap.size + 1, 1, none⟩) (World.block_lt_of_cell? _ _ p1)).trans p1
    replace r0 := (hb4.cell (p := ⟨w.heap.size + 1 + 1, 0, none⟩) (World.block_lt_of_cell? _ _ r0)).trans r0
    replace r1 := (hb4.cell (p := ⟨w.heap.size + 1 + 1, 1, none⟩) (World.block_lt_of_cell? _ _ r1)).trans r1
    replace r2 := (hb4.cell (p := ⟨w.heap.size + 1 + 1, 2, none⟩) (World.block_lt_of_cell? _ _ r2)).trans r2
    replace x0 := (hb4.cell (p := ⟨X7, 0, none⟩) (World.block_lt_of_cell? _ _ x0)).trans x0
    replace x1 := (hb4.cell (p := ⟨X7, 1, none⟩) (World.block_lt_of_cell? _ _ x1)).trans x1
    replace x2 := (hb4.cell (p := ⟨X7, 2, none⟩) (World.block_lt_of_cell? _ _ x2)).trans x2
    replace fr0 := (hb4.frozen (p := ⟨w.heap.size + 1 + 1, 0, none⟩) ltR).trans fr0
    replace fr1 := (hb4.frozen (p := ⟨w.heap.size + 1 + 1, 1, none⟩) ltR).trans fr1
    replace fr2 := (hb4.frozen (p := ⟨w.heap.size + 1 + 1, 2, none⟩) ltR).trans fr2
    replace f0 := (hb4.frozen (p := ⟨X7, 0, none⟩) hi).trans f0
    replace f1 := (hb4.frozen (p := ⟨X7, 1, none⟩) hi).trans f1
    replace f2 := (hb4.frozen (p := ⟨X7, 2, none⟩) hi).trans f2
    replace ltB := Nat.lt_of_lt_of_le ltB hb4.size
    replace ltP := Nat.lt_of_lt_of_le ltP hb4.size
    replace ltR := Nat.lt_of_lt_of_le ltR hb4.size
    replace hi := Nat.lt_of_lt_of_le hi hb4.size
    replace own := own_below own hb4
    replace ownC := own_below ownC hb4
    replace b0 := b0.trans (hb4.mono b0.size)
    clear hb4
    have sE := Sl.of_own Pce.enc_len own HN.out
    have sC := Sl.of_own Wrd.enc_len ownC HM.out
    have fA : ∀ a, A3 = some a → w.heap.size + 3 ≤ a.block := own_fresh own loS
    have fB : ∀ a, B3 = some a → w.heap.size + 3 ≤ a.block := own_fresh ownC loS
    clear own ownC
    go_wp2_with fail
    go_region
    go_wp2_with fail
    exact bodyPost_ret (v := .tuple #[.agg #[.int .i64 g.next, .slice A3 n c3, .slice B3 m d3], .int .i64 g.next, .int .i64 0]) (by simp [results, Try.results7, go_sem, r0, r1, r2]) rfl (gaveG_ret HN.out HM.out sE sC fA fB b0)
end Go.Proofs.Ytjnpdicoopgkoaa
