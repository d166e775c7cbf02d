/- The seat's arguments opened: classes, ints. -/
import Derived.Test.YtcjlpgpmoleidaaOpen
import Derived.Test.YtcjlpgpmoleidaaE
namespace Go.Proofs.Ytcjlpgpmoleidaa
open Go.RowKit Go.ChangeShapes Go.WideShapes Go.ChangeAt

section
variable {H : Type} {tok : TypeId × Value → H} {w : World} {base : Nat} {held : Bool} {fuel : Nat}
theorem read_cls {cs : List Value} {x : DataW H × List MemPlace} (h : DataW.trod tok Try.prog w base (fun _ => true) held fuel 42 cs = some x) : ∃ z : Cls, cs = Cls.enc z ∧ True := by
  obtain ⟨y0, y1, n, _, hl, h0, h1⟩ := trod_struct2 Try.underlying42 h
  obtain ⟨m, e0, _⟩ := read_int Try.underlying3 h0
  obtain ⟨u, e1, _⟩ := read_int Try.underlying3 h1
  rw [show Try.prog.cellsOf 42 = 2 by kernel_rfl] at hl
  match cs, hl with
  | [c0, c1], _ =>
    rw [show Try.prog.cellsOf 3 = 1 by kernel_rfl] at e0 e1
    simp at e0 e1
    exact ⟨⟨m, u⟩, by rw [e0, e1]; rfl, trivial⟩
theorem open_cls {a : Option Addr} {n c : Nat} {x : DataW H × List MemPlace} (h : DataW.trod tok Try.prog w base (fun _ => true) held fuel 22 (Value.slice a n c).cells.toList = some x) :
    ∃ l : List Cls, n = l.length ∧ Sl 2 Cls.enc w a l := by
  obtain ⟨A, c', l, e, _, _, hs, _, _⟩ := read_slice Cls.enc (fun _ => True) Try.underlying22 (k := 2) (by kernel_rfl) (by decide) (fun _ _ _ h => read_cls h) h
  simp [Value.cells] at e
  obtain ⟨rfl, rfl, rfl⟩ := e
  exact ⟨l, rfl, hs⟩
theorem open_nums {a : Option Addr} {n c : Nat} {x : DataW H × List MemPlace} (h : DataW.trod tok Try.prog w base (fun _ => true) held fuel 23 (Value.slice a n c).cells.toList = some x) :
    ∃ l : List Int, n = l.length ∧ Sl 1 encI w a l := by
  obtain ⟨A, c', l, e, _, _, hs, _, _⟩ := read_slice encI (fun _ => True) Try.underlying23 (k := 1) (by kernel_rfl) (by decide) (fun _ cs _ h => by
    obtain ⟨m, e, _⟩ := read_int Try.underlying3 h
    exact ⟨m, e, trivial⟩) h
  simp [Value.cells] at e
  obtain ⟨rfl, rfl, rfl⟩ := e
  exact ⟨l, rfl, hs⟩
end
end Go.Proofs.Ytcjlpgpmoleidaa
