/- The seat's arguments opened: a cache. -/
import Derived.Test.YtdndanjabknjpaaOp
import Derived.Lib.SmallJoins
import Derived.Test.YtdndanjabknjpaaD
namespace Go.Proofs.Ytdndanjabknjpaa
open Go.RowKit Go.ChangeShapes Go.WideShapes Go.ChangeAt

/-- A thing to do with a cache. -/
structure Dw where
  kind : Int
  addr : Int
  state : Int
  val_ : Int
  deriving DecidableEq, Inhabited
def Dw.enc (d : Dw) : List Value := [.int .u8 d.kind, .int .u8 d.addr, .int .u8 d.state, .int .u32 d.val_]
def Dw.good (d : Dw) : Prop := (0 ≤ d.kind ∧ d.kind ≤ 255) ∧ (0 ≤ d.addr ∧ d.addr ≤ 255) ∧ (0 ≤ d.state ∧ d.state ≤ 255)
section
variable {H : Type} {tok : TypeId × Value → H} {w : World} {base : Nat} {held : Bool} {fuel : Nat}
set_option maxRecDepth 100000 in
theorem open_dos {A : Option Addr} {n c : Nat} {x : DataW H × List MemPlace} (h : DataW.trod tok Try.prog w base (fun _ => true) held fuel 51 [.slice A n c] = some x) :
    ∃ l : List Dw, n = l.length ∧ Sl 4 Dw.enc w A l ∧ ∀ q ∈ l, q.good := by
  obtain ⟨A', c', l, e, _, _, hs, hg, _⟩ := read_slice Dw.enc Dw.good Try.underlying51 (k := 4) (by kernel_rfl) (by decide) (fun _ cs' _ h => by
    obtain ⟨y0, y1, y2, y3, m, _, hl, h0, h1, h2, h3⟩ := Go.Joins.trod_struct4 Try.underlying55 h
    obtain ⟨a0, e0, g0⟩ := read_int Try.underlying5 h0
    obtain ⟨a1, e1, g1⟩ := read_int Try.underlying5 h1
    obtain ⟨a2, e2, g2⟩ := read_int Try.underlying5 h2
    obtain ⟨a3, e3, g3⟩ := read_int Try.underlying30 h3
    rw [show Try.prog.cellsOf 55 = 4 by kernel_rfl] at hl
    match cs', hl with
    | [c0, c1, c2, c3], _ =>
      rw [show Try.prog.cellsOf 5 = 1 by kernel_rfl] at e0 e1 e2
      rw [show Try.prog.cellsOf 30 = 1 by kernel_rfl] at e3
      simp at e0 e1 e2 e3
      exact ⟨⟨a0, a1, a2, a3⟩, by rw [e0, e1, e2, e3]; rfl, wf_u8 g0, wf_u8 g1, wf_u8 g2⟩) h
  simp at e
  obtain ⟨rfl, rfl, rfl⟩ := e
  exact ⟨l, rfl, hs, hg⟩
end
end Go.Proofs.Ytdndanjabknjpaa
namespace Go.Proofs.Ytdndanjabknjpaa
open Go.RowKit Go.ChangeShapes Go.WideShapes Go.ChangeAt

theorem choose_list {α β : Type} [Inhabited α] [Inhabited β] {p : α → β → Prop} : ∀ l : List α, (∀ a ∈ l, ∃ b, p a b) → ∃ m : List β, m.length = l.length ∧ ∀ j, j < l.length → p l[j]! m[j]!
  | [], _ => ⟨[], rfl, fun j hj => absurd hj (Nat.not_lt_zero _)⟩
  | a :: l, h => by
    obtain ⟨b, hb⟩ := h a List.mem_cons_self
    obtain ⟨m, hm, hp⟩ := choose_list l (fun a ha => h a (List.mem_cons_of_mem _ ha))
    refine ⟨b :: m, by simp [hm], fun j hj => ?_⟩
    cases j with
    | zero => simpa using hb
    | succ j =>
      have := hp j (by simpa using hj)
      simpa using this
section
variable {H : Type} {tok : TypeId × Value → H} {w : World} {base : Nat} {held : Bool} {fuel : Nat}
/-- A slice's words read as a row of lines. -/
def rowOk (w : World) (h : Hd) (l : List Ln) : Prop :=
  h.len = l.length ∧ h.len ≤ h.cap ∧ (h.addr = none → h.cap = 0) ∧ Sl 4 Ln.enc w h.addr l ∧ ∀ y ∈ l, (Lit.int .i64 y.addr).wf = true
set_option maxRecDepth 100000 in
theorem read_ln {cs : List Value} {x : DataW H × List MemPlace} (h : DataW.trod tok Try.prog w base (fun _ => true) held fuel 32 cs = some x) : ∃ z : Ln, cs = Ln.enc z ∧ (Lit.int .i64 z.addr).wf = true := by
  obtain ⟨y0, y1, y2, y3, m, _, hl, h0, h1, h2, h3⟩ := Go.Joins.trod_struct4 Try.underlying32 h
  obtain ⟨a0, e0, g0⟩ := read_int Try.underlying3 h0
  obtain ⟨a1, e1, g1⟩ := read_int Try.underlying3 h1
  obtain ⟨a2, e2, g2⟩ := read_int Try.underlying30 h2
  obtain ⟨a3, e3, g3⟩ := read_int Try.underlying3 h3
  rw [show Try.prog.cellsOf 32 = 4 by kernel_rfl] at hl
  match cs, hl with
  | [c0, c1, c2, c3], _ =>
    rw [show Try.prog.cellsOf 3 = 1 by kernel_rfl] at e0 e1 e3
    rw [show Try.prog.cellsOf 30 = 1 by kernel_rfl] at e2
    simp at e0 e1 e2 e3
    exact ⟨⟨a0, a1, a2, a3⟩, by rw [e0, e1, e2, e3]; rfl, g0⟩
set_option maxRecDepth 100000 in
theorem read_row {cs : List Value} {x : DataW H × List MemPlace} (h : DataW.trod tok Try.prog w base (fun _ => true) held fuel 40 cs = some x) : ∃ z : Hd, cs = Hd.enc z ∧ ∃ l, rowOk w z l := by
  obtain ⟨A, c, l, e, hlc, _, hs, hg, hA⟩ := read_slice Ln.enc (fun y => (Lit.int .i64 y.addr).wf = true) Try.underlying40 (k := 4) (by kernel_rfl) (by decide) (fun _ _ _ h => read_ln h) h
  exact ⟨⟨A, l.length, c⟩, e, l, rfl, hlc, hA, hs, hg⟩
set_option maxRecDepth 100000 in
theorem open_cache {cs : Array Value} {x : DataW H × List MemPlace} (h : DataW.trod tok Try.prog w base (fun _ => true) held fuel 26 (Value.agg cs).cells.toList = some x) :
    ∃ (A : Option Addr) (c n : Nat) (y : Ca) (hs : List Hd), Value.agg cs = .agg #[.int .i64 y.sets, .int .i64 y.ways, .int .i64 y.clock, .slice A n c] ∧ CIn w A y.lines hs ∧ y.lines.length = n ∧ WfC y := by
  obtain ⟨y0, y1, y2, y3, m, _, hl, h0, h1, h2, h3⟩ := Go.Joins.trod_struct4 Try.underlying26 h
  obtain ⟨a0, e0, _⟩ := read_int Try.underlying3 h0
  obtain ⟨a1, e1, _⟩ := read_int Try.underlying3 h1
  obtain ⟨a2, e2, _⟩ := read_int Try.underlying3 h2
  obtain ⟨A, c, hs, e3, _, _, hsl, hg, _⟩ := read_slice Hd.enc (fun z => ∃ l, rowOk w z l) Try.underlying24 (k := 1) (by kernel_rfl) (by decide) (fun _ _ _ h => read_row h) h3
  obtain ⟨ls, hll, hrow⟩ := choose_list (p := rowOk w) hs hg
  have hcs : (Value.agg cs).cells.toList = cs.toList := by simp [Value.cells]
  rw [show Try.prog.cellsOf 26 = 4 by kernel_rfl] at hl
  rw [hcs] at hl e0 e1 e2 e3
  refine ⟨A, c, hs.length, ⟨a0, a1, a2, ls⟩, hs, ?_, ⟨hsl, hll.symm, fun j hj => ?_⟩, hll, fun s i hs' hi => ?_⟩
  · obtain ⟨cs⟩ := cs
    match cs, hl with
    | [c0, c1, c2, c3], _ =>
      rw [show Try.prog.cellsOf 3 = 1 by kernel_rfl] at e0 e1 e2
      rw [show Try.prog.cellsOf 24 = 1 by kernel_rfl] at e3
      simp at e0 e1 e2 e3
      rw [e0, e1, e2, e3]
  · obtain ⟨r1, r2, r3, r4, _⟩ := hrow j (by rw [← hll]; exact hj)
    exact ⟨r1, r2, r3, r4⟩
  · obtain ⟨_, _, _, _, r5⟩ := hrow s (by rw [← hll]; exact hs')
    have hi2 : i < ls[s]!.length := hi
    show (Lit.int .i64 (ls[s]![i]!).addr).wf = true
    rw [getElem!_pos ls[s]! i hi2]
    exact r5 _ (List.getElem_mem _)
end
end Go.Proofs.Ytdndanjabknjpaa
