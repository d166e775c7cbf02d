/- The seat's arguments opened: bytes. -/
import Derived.Test.YtdndanjabknjpaaOpen
import Derived.Test.YtdndanjabknjpaaA
import Derived.ChangeSame
import Derived.Deep.Strs
import Derived.OpenShut
namespace Go.Proofs.Ytdndanjabknjpaa
open Go.RowKit Go.ChangeShapes Go.WideShapes Go.ChangeAt

section
variable {H : Type} {tok : TypeId × Value → H} {w : World} {base : Nat} {held : Bool} {fuel : Nat}
theorem wf_u8 {n : Int} (h : (Lit.int .u8 n).wf = true) : 0 ≤ n ∧ n ≤ 255 := by
  simp [Lit.wf, IntKind.min, IntKind.max, IntKind.signed, IntKind.bits] at h
  omega
theorem open_bytes {A : Option Addr} {n c : Nat} {x : DataW H × List MemPlace} (h : DataW.trod tok Try.prog w base (fun _ => true) held fuel 22 [.slice A n c] = some x) :
    ∃ l : List Int, n = l.length ∧ Sl 1 (fun x : Int => [Value.int .u8 x]) w A l ∧ ∀ q ∈ l, 0 ≤ q ∧ q ≤ 255 := by
  obtain ⟨A', c', l, e, _, _, hs, hg, _⟩ := read_slice (fun x : Int => [Value.int .u8 x]) (fun q => 0 ≤ q ∧ q ≤ 255) Try.underlying22 (k := 1) (by kernel_rfl) (by decide) (fun _ _ _ h => by obtain ⟨u, h1, h2⟩ := read_int Try.underlying5 h; exact ⟨u, h1, wf_u8 h2⟩) h
  simp at e
  obtain ⟨rfl, rfl, rfl⟩ := e
  exact ⟨l, rfl, hs, hg⟩
end
end Go.Proofs.Ytdndanjabknjpaa
