/- The walk of the reference's Put: whole. -/
import Derived.Test.YtdndanjabknjpaaBJ
import Derived.Test.YtdndanjabknjpaaBL
namespace Go.Proofs.Ytdndanjabknjpaa
open Go.RowKit Go.Lib

set_option linter.unusedVariables false
attribute [local go_sem] Act.puts

theorem rPut_any (A : Option Addr) (c n : Nat) (x : Ca) (hs : List Hd) (t st v : Int) (w : World) (hc : CIn w A x.lines hs) (hn : x.lines.length = n) (hn1 : n ≤ 1000000) (hb : ∀ s, s < n → x.lines[s]!.length ≤ 1000000) :
    Calls Try.prog 20 #[.agg #[.int .i64 x.sets, .int .i64 x.ways, .int .i64 x.clock, .slice A n c], .int .i64 t, .int .i64 st, .int .u32 v] w (GivesY w A x.lines hs (putC x t st v)) := by
  by_cases h : mayC x t = true ∧ 1 ≤ st ∧ st ≤ 4
  · obtain ⟨hr, ht, hk0⟩ := may_facts h.1
    obtain ⟨s, hst, hsn, h0⟩ := set_of hr ht
    have he : ∀ s' : Nat, t.tmod x.sets = (s' : Int) → s' = s := fun s' e => by rw [hst] at e; omega
    by_cases hi : idxA x.lines[s]! t < 0
    · by_cases hf : (x.lines[s]!.length : Int) = x.ways
      · exact rPut_push A c n x hs t st v w hc hn hn1 hb h.1 h.2 (fun s' e => by rw [he s' e]; exact hi) (fun s' e => by rw [he s' e]; exact hf)
      · exact rPut_new A c n x hs t st v w hc hn hn1 hb h.1 h.2 (fun s' e => by rw [he s' e]; exact hi) (fun s' e => by rw [he s' e]; exact hf)
    · exact rPut_found A c n x hs t st v w hc hn hn1 hb h.1 h.2 (fun s' e => by rw [he s' e]; exact hi)
  · exact rPut_bad A c n x hs t st v w hc hn hn1 hb h
end Go.Proofs.Ytdndanjabknjpaa
