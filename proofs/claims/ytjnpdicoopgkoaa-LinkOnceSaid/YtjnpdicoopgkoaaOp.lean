/- The seat's arguments opened: a getter, a piece, words, numbers of 16 bits. -/
import Derived.Test.YtjnpdicoopgkoaaOpen
import Derived.Test.YtjnpdicoopgkoaaB
import Derived.ChangeSame
import Derived.Deep.Strs
import Derived.OpenShut
namespace Go.Proofs.Ytjnpdicoopgkoaa
open Go.RowKit Go.ChangeShapes Go.WideShapes Go.ChangeAt

section
variable {H : Type} {tok : TypeId × Value → H} {w : World} {base : Nat} {held : Bool} {fuel : Nat}
theorem wf_i64 {n : Int} (h : (Lit.int .i64 n).wf = true) : -9223372036854775808 ≤ n ∧ n ≤ 9223372036854775807 := by
  simp [Lit.wf, IntKind.min, IntKind.max, IntKind.signed, IntKind.bits] at h
  omega
theorem read_pce {cs : List Value} {x : DataW H × List MemPlace} (h : DataW.trod tok Try.prog w base (fun _ => true) held fuel 34 cs = some x) : ∃ z : Pce, cs = Pce.enc z ∧ z.num ≤ 9223372036854775807 := by
  obtain ⟨y0, y1, n, _, hl, h0, h1⟩ := trod_struct2 Try.underlying34 h
  obtain ⟨m, e0, g0⟩ := read_int Try.underlying3 h0
  obtain ⟨u, e1, _⟩ := read_int Try.underlying32 h1
  rw [show Try.prog.cellsOf 34 = 2 by kernel_rfl] at hl
  match cs, hl with
  | [c0, c1], _ =>
    rw [show Try.prog.cellsOf 3 = 1 by kernel_rfl] at e0
    rw [show Try.prog.cellsOf 32 = 1 by kernel_rfl] at e1
    simp at e0 e1
    exact ⟨⟨m, u⟩, by rw [e0, e1]; rfl, (wf_i64 g0).2⟩
theorem open_piece {cs : Array Value} {x : DataW H × List MemPlace} (h : DataW.trod tok Try.prog w base (fun _ => true) held fuel 34 (Value.agg cs).cells.toList = some x) :
    ∃ p : Pce, Value.agg cs = .agg #[.int .i64 p.num, .int .u32 p.val] ∧ p.num ≤ 9223372036854775807 := by
  obtain ⟨z, e, hz⟩ := read_pce h
  have hcs : (Value.agg cs).cells.toList = cs.toList := by simp [Value.cells]
  rw [hcs] at e
  refine ⟨z, ?_, hz⟩
  obtain ⟨cs⟩ := cs
  simp [Pce.enc] at e
  rw [e]
theorem open_getter {cs : Array Value} {x : DataW H × List MemPlace} (h : DataW.trod tok Try.prog w base (fun _ => true) held fuel 29 (Value.agg cs).cells.toList = some x) :
    ∃ (A : Option Addr) (c : Nat) (B : Option Addr) (d : Nat) (g : Gtr), Value.agg cs = .agg #[.int .i64 g.next, .slice A g.early.length c, .slice B g.came.length d] ∧ GtrIn w A B g := by
  obtain ⟨y0, y1, y2, n, _, hl, h0, h1, h2⟩ := Go.Deep.trod_struct3 Try.underlying29 h
  obtain ⟨m, e0, _⟩ := read_int Try.underlying3 h0
  obtain ⟨A, c, l, e1, _, _, hs, _, _⟩ := read_slice Pce.enc (fun _ => True) Try.underlying25 (k := 2) (by kernel_rfl) (by decide) (fun _ _ _ h => by obtain ⟨z, h1, _⟩ := read_pce h; exact ⟨z, h1, trivial⟩) h1
  obtain ⟨B, d, t, e2, _, _, ht, _, _⟩ := read_slice Wrd.enc (fun _ => True) Try.underlying22 (k := 1) (by kernel_rfl) (by decide) (fun _ _ _ h => by obtain ⟨u, h1, _⟩ := read_int Try.underlying32 h; exact ⟨⟨u⟩, h1, trivial⟩) h2
  rw [show Try.prog.cellsOf 29 = 3 by kernel_rfl] at hl
  have hcs : (Value.agg cs).cells.toList = cs.toList := by simp [Value.cells]
  rw [hcs] at hl e0 e1 e2
  refine ⟨A, c, B, d, ⟨m, l, t⟩, ?_, ⟨hs, ht⟩⟩
  obtain ⟨cs⟩ := cs
  match cs, hl with
  | [c0, c1, c2], _ =>
    rw [show Try.prog.cellsOf 3 = 1 by kernel_rfl] at e0
    rw [show Try.prog.cellsOf 25 = 1 by kernel_rfl] at e1
    rw [show Try.prog.cellsOf 22 = 1 by kernel_rfl] at e2
    simp at e0 e1 e2
    rw [e0, e1, e2]
theorem open_words {A : Option Addr} {n c : Nat} {x : DataW H × List MemPlace} (h : DataW.trod tok Try.prog w base (fun _ => true) held fuel 22 [.slice A n c] = some x) :
    ∃ l : List Wrd, n = l.length ∧ Sl 1 Wrd.enc w A l := by
  obtain ⟨A', c', l, e, _, _, hs, _, _⟩ := read_slice Wrd.enc (fun _ => True) Try.underlying22 (k := 1) (by kernel_rfl) (by decide) (fun _ _ _ h => by obtain ⟨u, h1, _⟩ := read_int Try.underlying32 h; exact ⟨⟨u⟩, h1, trivial⟩) h
  simp at e
  obtain ⟨rfl, rfl, rfl⟩ := e
  exact ⟨l, rfl, hs⟩
theorem wf_u16 {n : Int} (h : (Lit.int .u16 n).wf = true) : 0 ≤ n ∧ n ≤ 65535 := by
  simp [Lit.wf, IntKind.min, IntKind.max, IntKind.signed, IntKind.bits] at h
  omega
theorem open_halves {A : Option Addr} {n c : Nat} {x : DataW H × List MemPlace} (h : DataW.trod tok Try.prog w base (fun _ => true) held fuel 23 [.slice A n c] = some x) :
    ∃ l : List Int, n = l.length ∧ Sl 1 (fun x : Int => [Value.int .u16 x]) w A l ∧ ∀ q ∈ l, 0 ≤ q ∧ q ≤ 65535 := by
  obtain ⟨A', c', l, e, _, _, hs, hg, _⟩ := read_slice (fun x : Int => [Value.int .u16 x]) (fun q => 0 ≤ q ∧ q ≤ 65535) Try.underlying23 (k := 1) (by kernel_rfl) (by decide) (fun _ _ _ h => by obtain ⟨u, h1, h2⟩ := read_int Try.underlying31 h; exact ⟨u, h1, wf_u16 h2⟩) h
  simp at e
  obtain ⟨rfl, rfl, rfl⟩ := e
  exact ⟨l, rfl, hs, hg⟩
end
end Go.Proofs.Ytjnpdicoopgkoaa
