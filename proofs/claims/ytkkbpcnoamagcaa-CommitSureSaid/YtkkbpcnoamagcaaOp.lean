/- The seat's arguments opened: a gate. -/
import Derived.Test.YtkkbpcnoamagcaaOpen
import Derived.Test.YtkkbpcnoamagcaaA
import Derived.ChangeSame
namespace Go.Proofs.Ytkkbpcnoamagcaa
open Go.RowKit Go.ChangeShapes Go.WideShapes Go.ChangeAt

section
variable {H : Type} {tok : TypeId × Value → H} {w : World} {base : Nat} {held : Bool} {fuel : Nat}
theorem read_tld {cs : List Value} {x : DataW H × List MemPlace} (h : DataW.trod tok Try.prog w base (fun _ => true) held fuel 28 cs = some x) : ∃ z : Tld, cs = Tld.enc z ∧ True := by
  obtain ⟨y0, y1, n, _, hl, h0, h1⟩ := trod_struct2 Try.underlying28 h
  obtain ⟨m, e0, _⟩ := read_int Try.underlying3 h0
  obtain ⟨u, e1, _⟩ := read_int Try.underlying26 h1
  rw [show Try.prog.cellsOf 28 = 2 by kernel_rfl] at hl
  match cs, hl with
  | [c0, c1], _ =>
    rw [show Try.prog.cellsOf 3 = 1 by kernel_rfl] at e0
    rw [show Try.prog.cellsOf 26 = 1 by kernel_rfl] at e1
    simp at e0 e1
    exact ⟨⟨m, u⟩, by rw [e0, e1]; rfl, trivial⟩
theorem read_hld {cs : List Value} {x : DataW H × List MemPlace} (h : DataW.trod tok Try.prog w base (fun _ => true) held fuel 51 cs = some x) : ∃ z : Hld, cs = Hld.enc z ∧ True := by
  obtain ⟨y0, y1, n, _, hl, h0, h1⟩ := trod_struct2 Try.underlying51 h
  obtain ⟨z, e0, _⟩ := read_tld h0
  obtain ⟨u, e1, _⟩ := read_int Try.underlying3 h1
  rw [show Try.prog.cellsOf 51 = 3 by kernel_rfl] at hl
  match cs, hl with
  | [c0, c1, c2], _ =>
    rw [show Try.prog.cellsOf 28 = 2 by kernel_rfl] at e0
    rw [show Try.prog.cellsOf 3 = 1 by kernel_rfl] at e1
    simp [Tld.enc] at e0 e1
    exact ⟨⟨z.core, z.val, u⟩, by rw [e0.1, e0.2, e1]; rfl, trivial⟩
theorem open_gate {cs : Array Value} {x : DataW H × List MemPlace} (h : DataW.trod tok Try.prog w base (fun _ => true) held fuel 25 (Value.agg cs).cells.toList = some x) :
    ∃ (A : Option Addr) (c : Nat) (B : Option Addr) (d : Nat) (l : List Hld) (t : List Tld), Value.agg cs = .agg #[.slice A l.length c, .slice B t.length d] ∧ Sl 3 Hld.enc w A l ∧ Sl 2 Tld.enc w B t := by
  obtain ⟨y0, y1, n, _, hl, h0, h1⟩ := trod_struct2 Try.underlying25 h
  obtain ⟨A, c, l, e0, _, _, hs, _, _⟩ := read_slice Hld.enc (fun _ => True) Try.underlying22 (k := 3) (by kernel_rfl) (by decide) (fun _ _ _ h => read_hld h) h0
  obtain ⟨B, d, t, e1, _, _, ht, _, _⟩ := read_slice Tld.enc (fun _ => True) Try.underlying23 (k := 2) (by kernel_rfl) (by decide) (fun _ _ _ h => read_tld h) h1
  rw [show Try.prog.cellsOf 25 = 2 by kernel_rfl] at hl
  have hcs : (Value.agg cs).cells.toList = cs.toList := by simp [Value.cells]
  rw [hcs] at hl e0 e1
  refine ⟨A, c, B, d, l, t, ?_, hs, ht⟩
  obtain ⟨cs⟩ := cs
  match cs, hl with
  | [c0, c1], _ =>
    rw [show Try.prog.cellsOf 22 = 1 by kernel_rfl] at e0
    rw [show Try.prog.cellsOf 23 = 1 by kernel_rfl] at e1
    simp at e0 e1
    rw [e0, e1]
end
end Go.Proofs.Ytkkbpcnoamagcaa
