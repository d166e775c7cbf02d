/- The seat's arguments opened: what is told; a list of things to do. -/
import Derived.Test.YtkkbpcnoamagcaaOp
import Derived.Deep.Strs
import Derived.OpenShut
namespace Go.Proofs.Ytkkbpcnoamagcaa
open Go.RowKit Go.ChangeShapes Go.WideShapes Go.ChangeAt

structure Doi where
  kind : Int
  dst : Int
  core : Int
  val : Int
  deriving DecidableEq, Inhabited
def Doi.enc (c : Doi) : List Value := [.int .u8 c.kind, .int .u8 c.dst, .int .i64 c.core, .int .u32 c.val]
theorem Doi.enc_len (x : Doi) : (Doi.enc x).length = 4 := rfl
def Doi.good (x : Doi) : Prop := 0 ≤ x.kind ∧ x.kind ≤ 255 ∧ 0 ≤ x.dst ∧ x.dst ≤ 255
section
variable {H : Type} {tok : TypeId × Value → H} {w : World} {base : Nat} {held : Bool} {fuel : Nat}
theorem open_told {cs : Array Value} {x : DataW H × List MemPlace} (h : DataW.trod tok Try.prog w base (fun _ => true) held fuel 28 (Value.agg cs).cells.toList = some x) :
    ∃ t : Tld, Value.agg cs = .agg #[.int .i64 t.core, .int .u32 t.val] ∧ True := by
  obtain ⟨z, e, _⟩ := read_tld h
  have hcs : (Value.agg cs).cells.toList = cs.toList := by simp [Value.cells]
  rw [hcs] at e
  refine ⟨z, ?_, trivial⟩
  obtain ⟨cs⟩ := cs
  simp [Tld.enc] at e
  rw [e]
theorem wf_u8 {n : Int} (h : (Lit.int .u8 n).wf = true) : 0 ≤ n ∧ n ≤ 255 := by
  simp [Lit.wf, IntKind.min, IntKind.max, IntKind.signed, IntKind.bits] at h
  omega
theorem read_doi {cs : List Value} {x : DataW H × List MemPlace} (h : DataW.trod tok Try.prog w base (fun _ => true) held fuel 45 cs = some x) : ∃ z : Doi, cs = Doi.enc z ∧ Doi.good z := by
  obtain ⟨y0, y1, y2, n, _, hl, h0, h1, h2⟩ := Go.Deep.trod_struct3 Try.underlying45 h
  obtain ⟨m0, e0, g0⟩ := read_int Try.underlying5 h0
  obtain ⟨m1, e1, g1⟩ := read_int Try.underlying5 h1
  obtain ⟨z, e2, _⟩ := read_tld h2
  rw [show Try.prog.cellsOf 45 = 4 by kernel_rfl] at hl
  match cs, hl with
  | [c0, c1, c2, c3], _ =>
    rw [show Try.prog.cellsOf 5 = 1 by kernel_rfl] at e0 e1
    rw [show Try.prog.cellsOf 28 = 2 by kernel_rfl] at e2
    simp [Tld.enc] at e0 e1 e2
    exact ⟨⟨m0, m1, z.core, z.val⟩, by rw [e0, e1, e2.1, e2.2]; rfl, (wf_u8 g0).1, (wf_u8 g0).2, (wf_u8 g1).1, (wf_u8 g1).2⟩
theorem open_dos {A : Option Addr} {n c : Nat} {x : DataW H × List MemPlace} (h : DataW.trod tok Try.prog w base (fun _ => true) held fuel 42 [.slice A n c] = some x) :
    ∃ l : List Doi, n = l.length ∧ Sl 4 Doi.enc w A l ∧ (∀ z ∈ l, Doi.good z) := by
  obtain ⟨A', c', l, e, _, _, hs, hg, _⟩ := read_slice Doi.enc Doi.good Try.underlying42 (k := 4) (by kernel_rfl) (by decide) (fun _ _ _ h => read_doi h) h
  simp at e
  obtain ⟨rfl, rfl, rfl⟩ := e
  exact ⟨l, rfl, hs, hg⟩
end
end Go.Proofs.Ytkkbpcnoamagcaa
