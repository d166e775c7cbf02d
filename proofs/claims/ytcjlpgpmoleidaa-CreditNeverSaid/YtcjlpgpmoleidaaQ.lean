/- CreditNever's arguments opened. -/
import Derived.Test.YtcjlpgpmoleidaaOpen
import Derived.Test.YtcjlpgpmoleidaaN
namespace Go.Proofs.Ytcjlpgpmoleidaa
open Go.RowKit Go.ChangeShapes Go.WideShapes Go.ChangeAt
section
variable {H : Type} {tok : TypeId × Value → H} {w : World} {base : Nat} {held : Bool} {fuel : Nat}
theorem open_u8s {a : Option Addr} {n c : Nat} {x : DataW H × List MemPlace} (h : DataW.trod tok Try.prog w base (fun _ => true) held fuel 38 (Value.slice a n c).cells.toList = some x) :
    ∃ l : List Int, n = l.length ∧ Sl 1 encU8 w a l ∧ ∀ x ∈ l, 0 ≤ x ∧ x ≤ 255 := by
  obtain ⟨A, c', l, e, _, _, hs, hg, _⟩ := read_slice encU8 (fun x => 0 ≤ x ∧ x ≤ 255) Try.underlying38 (k := 1) (by kernel_rfl) (by decide) (fun _ cs _ h => by
    obtain ⟨m, e, hw⟩ := read_int Try.underlying5 h
    refine ⟨m, e, ?_⟩
    simp [Lit.wf, IntKind.min, IntKind.max, IntKind.signed, IntKind.bits] at hw
    omega) h
  simp [Value.cells] at e
  obtain ⟨rfl, rfl, rfl⟩ := e
  exact ⟨l, rfl, hs, hg⟩
theorem open_u16s {a : Option Addr} {n c : Nat} {x : DataW H × List MemPlace} (h : DataW.trod tok Try.prog w base (fun _ => true) held fuel 39 (Value.slice a n c).cells.toList = some x) :
    ∃ l : List Int, n = l.length ∧ Sl 1 encU16 w a l ∧ ∀ x ∈ l, 0 ≤ x ∧ x ≤ 65535 := by
  obtain ⟨A, c', l, e, _, _, hs, hg, _⟩ := read_slice encU16 (fun x => 0 ≤ x ∧ x ≤ 65535) Try.underlying39 (k := 1) (by kernel_rfl) (by decide) (fun _ cs _ h => by
    obtain ⟨m, e, hw⟩ := read_int Try.underlying40 h
    refine ⟨m, e, ?_⟩
    simp [Lit.wf, IntKind.min, IntKind.max, IntKind.signed, IntKind.bits] at hw
    omega) h
  simp [Value.cells] at e
  obtain ⟨rfl, rfl, rfl⟩ := e
  exact ⟨l, rfl, hs, hg⟩
end
theorem never_row (A : Option Addr) (c : Nat) (most : List Int) (B : Option Addr) (d : Nat) (ev : List Int) (w : World) (hs : Sl 1 encU8 w A most)
    (hb8 : ∀ x ∈ most, 0 ≤ x ∧ x ≤ 255) (hm : Sl 1 encU16 w B ev) (hb16 : ∀ x ∈ ev, 0 ≤ x ∧ x ≤ 65535) :
    Calls Try.prog 4 #[.slice A most.length c, .slice B ev.length d] w fun e w' => e = .returned (.bool true) ∧ Below w.heap.size w w' :=
  never_walk A c most B d ev w hs hm hb8 hb16
end Go.Proofs.Ytcjlpgpmoleidaa
