/- The seat's arguments opened: a list of what is due, one that is due, bytes. -/
import Derived.Test.YtimhdkgllgdamaaOpen
import Derived.Test.YtimhdkgllgdamaaA
import Derived.ChangeSame
import Derived.Deep.Strs
import Derived.OpenShut
namespace Go.Proofs.Ytimhdkgllgdamaa
open Go.RowKit Go.ChangeShapes Go.WideShapes Go.ChangeAt

section
variable {H : Type} {tok : TypeId × Value → H} {w : World} {base : Nat} {held : Bool} {fuel : Nat}
theorem read_due {cs : List Value} {x : DataW H × List MemPlace} (h : DataW.trod tok Try.prog w base (fun _ => true) held fuel 30 cs = some x) : ∃ z : Du, cs = Du.enc z ∧ True := by
  obtain ⟨y0, y1, n, _, hl, h0, h1⟩ := trod_struct2 Try.underlying30 h
  obtain ⟨m, e0, _⟩ := read_int Try.underlying3 h0
  obtain ⟨u, e1, _⟩ := read_int Try.underlying3 h1
  rw [show Try.prog.cellsOf 30 = 2 by kernel_rfl] at hl
  match cs, hl with
  | [c0, c1], _ =>
    rw [show Try.prog.cellsOf 3 = 1 by kernel_rfl] at e0 e1
    simp at e0 e1
    exact ⟨⟨m, u⟩, by rw [e0, e1]; rfl, trivial⟩
theorem open_due {cs : Array Value} {x : DataW H × List MemPlace} (h : DataW.trod tok Try.prog w base (fun _ => true) held fuel 30 (Value.agg cs).cells.toList = some x) :
    ∃ d : Du, Value.agg cs = .agg #[.int .i64 d.when_, .int .i64 d.which] ∧ True := by
  obtain ⟨z, e, _⟩ := read_due h
  have hcs : (Value.agg cs).cells.toList = cs.toList := by simp [Value.cells]
  rw [hcs] at e
  refine ⟨z, ?_, trivial⟩
  obtain ⟨cs⟩ := cs
  simp [Du.enc] at e
  rw [e]
theorem open_dues {A : Option Addr} {n c : Nat} {x : DataW H × List MemPlace} (h : DataW.trod tok Try.prog w base (fun _ => true) held fuel 24 [.slice A n c] = some x) :
    ∃ l : List Du, n = l.length ∧ Sl 2 Du.enc w A l := by
  obtain ⟨A', c', l, e, _, _, hs, _, _⟩ := read_slice Du.enc (fun _ => True) Try.underlying24 (k := 2) (by kernel_rfl) (by decide) (fun _ _ _ h => read_due h) h
  simp at e
  obtain ⟨rfl, rfl, rfl⟩ := e
  exact ⟨l, rfl, hs⟩
theorem wf_u8 {n : Int} (h : (Lit.int .u8 n).wf = true) : 0 ≤ n ∧ n ≤ 255 := by
  simp [Lit.wf, IntKind.min, IntKind.max, IntKind.signed, IntKind.bits] at h
  omega
theorem open_bytes {A : Option Addr} {n c : Nat} {x : DataW H × List MemPlace} (h : DataW.trod tok Try.prog w base (fun _ => true) held fuel 22 [.slice A n c] = some x) :
    ∃ l : List Int, n = l.length ∧ Sl 1 (fun x : Int => [Value.int .u8 x]) w A l ∧ ∀ q ∈ l, 0 ≤ q ∧ q ≤ 255 := by
  obtain ⟨A', c', l, e, _, _, hs, hg, _⟩ := read_slice (fun x : Int => [Value.int .u8 x]) (fun q => 0 ≤ q ∧ q ≤ 255) Try.underlying22 (k := 1) (by kernel_rfl) (by decide) (fun _ _ _ h => by obtain ⟨u, h1, h2⟩ := read_int Try.underlying5 h; exact ⟨u, h1, wf_u8 h2⟩) h
  simp at e
  obtain ⟨rfl, rfl, rfl⟩ := e
  exact ⟨l, rfl, hs, hg⟩
end
end Go.Proofs.Ytimhdkgllgdamaa
