/- The seat's arguments opened: a list of things to do with a cache. -/
import Derived.Test.YtdndanjabknjpaaOp
import Derived.Lib.SmallJoins
namespace Go.Proofs.Ytdndanjabknjpaa
open Go.RowKit Go.ChangeShapes Go.WideShapes Go.ChangeAt

/-- A thing to do with a cache. -/
structure Dw where
  kind : Int
  addr : Int
  state : Int
  val_ : Int
  deriving DecidableEq, Inhabited
def Dw.enc (d : Dw) : List Value := [.int .u8 d.kind, .int .u8 d.addr, .int .u8 d.state, .int .u32 d.val_]
def Dw.good (d : Dw) : Prop := (0 ≤ d.kind ∧ d.kind ≤ 255) ∧ (0 ≤ d.addr ∧ d.addr ≤ 255) ∧ (0 ≤ d.state ∧ d.state ≤ 255)
section
variable {H : Type} {tok : TypeId × Value → H} {w : World} {base : Nat} {held : Bool} {fuel : Nat}
set_option maxRecDepth 100000 in
theorem open_dos {A : Option Addr} {n c : Nat} {x : DataW H × List MemPlace} (h : DataW.trod tok Try.prog w base (fun _ => true) held fuel 51 [.slice A n c] = some x) :
    ∃ l : List Dw, n = l.length ∧ Sl 4 Dw.enc w A l ∧ ∀ q ∈ l, q.good := by
  obtain ⟨A', c', l, e, _, _, hs, hg, _⟩ := read_slice Dw.enc Dw.good Try.underlying51 (k := 4) (by kernel_rfl) (by decide) (fun _ cs' _ h => by
    obtain ⟨y0, y1, y2, y3, m, _, hl, h0, h1, h2, h3⟩ := Go.Joins.trod_struct4 Try.underlying55 h
    obtain ⟨a0, e0, g0⟩ := read_int Try.underlying5 h0
    obtain ⟨a1, e1, g1⟩ := read_int Try.underlying5 h1
    obtain ⟨a2, e2, g2⟩ := read_int Try.underlying5 h2
    obtain ⟨a3, e3, g3⟩ := read_int Try.underlying30 h3
    rw [show Try.prog.cellsOf 55 = 4 by kernel_rfl] at hl
    match cs', hl with
    | [c0, c1, c2, c3], _ =>
      rw [show Try.prog.cellsOf 5 = 1 by kernel_rfl] at e0 e1 e2
      rw [show Try.prog.cellsOf 30 = 1 by kernel_rfl] at e3
      simp at e0 e1 e2 e3
      exact ⟨⟨a0, a1, a2, a3⟩, by rw [e0, e1, e2, e3]; rfl, wf_u8 g0, wf_u8 g1, wf_u8 g2⟩) h
  simp at e
  obtain ⟨rfl, rfl, rfl⟩ := e
  exact ⟨l, rfl, hs, hg⟩
end
end Go.Proofs.Ytdndanjabknjpaa
