/- CacheModel: a part of its walk. -/
import Derived.Test.YtdndanjabknjpaaAH
import Derived.Test.YtdndanjabknjpaaAJ
namespace Go.Proofs.Ytdndanjabknjpaa
open Go.RowKit Go.Lib

set_option linter.unusedVariables false
attribute [local go_sem] Act.puts
attribute [local go_sem high] eq32
structure MoR (w : World) (CX TX VX LX DX BX base n t i c0 d5 : Nat) (x y : Ca) (A0 A5 : Option Addr) (hs1 hs5 : List Hd) (th : Nat → Bool) (va la : Nat → Int) (v j1 : Int) (DC : List Value) (L : Nat → Bool) (u185 u186 u187 u188 u189 u190 u191 u192 u193 u194 : Value) (wz : World) : Prop where
  b : True
  s0 : L 0 = true → u185 = .int .i64 (t : Int)
  s1 : L 1 = true → u186 = .int .i64 (t : Int)
  s2 : L 2 = true → u187 = .int .i64 (t : Int)
  s3 : L 3 = true → u188 = .pointer (some ⟨DX, 3, none⟩)
  s4 : L 4 = true → u189 = .int .u32 v
  s5 : L 5 = true → u190 = .int .i64 (i : Int)
  s6 : L 6 = true → u191 = .int .i64 j1
  s7 : L 7 = true → u192 = .pointer (some ⟨TX, t, none⟩)
  s9 : L 9 = true → u193 = .pointer (some ⟨VX, t, none⟩)
  s11 : L 11 = true → u194 = .pointer (some ⟨LX, t, none⟩)
  ms : ∀ a b c : Bool, L 8 = a → L 10 = b → L 12 = c → MS w wz CX TX VX LX n x A0 c0 hs1 (cond a (upd th t true) th) (cond b (upd va t v) va) (cond c (upd la t j1) la)
  db : Bx wz DX DC
  bb : Bx wz BX [.int .i64 y.sets, .int .i64 y.ways, .int .i64 y.clock, .slice A5 n d5]
  ow : OwnC wz base (.slice A5 n d5) n y.lines hs5
def MoRPhi (w : World) (CX TX VX LX DX BX base n t i c0 d5 : Nat) (x y : Ca) (A0 A5 : Option Addr) (hs1 hs5 : List Hd) (th : Nat → Bool) (va la : Nat → Int) (v j1 : Int) (DC : List Value) (L : Nat → Bool) (vs : List Value) (w' : World) : Prop :=
  ∃ u185 u186 u187 u188 u189 u190 u191 u192 u193 u194 wz, vs = [u185, u186, u187, u188, u189, u190, u191, u192, u193, u194] ∧ MoR w CX TX VX LX DX BX base n t i c0 d5 x y A0 A5 hs1 hs5 th va la v j1 DC L u185 u186 u187 u188 u189 u190 u191 u192 u193 u194 wz ∧ wz = w'
theorem meas {N i g : Nat} (h : i < N) (hg : N - i ≤ g) : N - (i + 1) < g := by omega
def firstLoop : Code → Option Code
  | .loop c => some c
  | .seq a b => match firstLoop a with
    | some c => some c
    | none => firstLoop b
  | .block _ c => firstLoop c
  | .scope c => firstLoop c
  | .cond _ a b => match firstLoop a with
    | some c => some c
    | none => firstLoop b
  | _ => none
/-- The body of CacheModel's loop. -/
noncomputable def modelBody : Code := ((Try.f5.body.bind firstLoop).getD .skip)
end Go.Proofs.Ytdndanjabknjpaa
