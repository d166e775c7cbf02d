/- Walks of the credit package: New. -/
import Derived.Test.YtcjlpgpmoleidaaD
namespace Go.Proofs.Ytcjlpgpmoleidaa
open Go.RowKit Go.Lib

def encI (x : Int) : List Value := [.int .i64 x]
theorem encI_len (x : Int) : (encI x).length = 1 := rfl
def newL (most : List Int) : List Cls × Int := if rightB (most.map (⟨·, 0⟩)) then (most.map (⟨·, 0⟩), 0) else ([], 1)

set_option maxHeartbeats 2000000 in
set_option maxRecDepth 100000 in
theorem New_any (A : Option Addr) (c : Nat) (most : List Int) (w : World) (hs : Sl 1 encI w A most) (hsm : most.length ≤ 1000000) :
    Calls Try.prog 14 #[.slice A most.length c] w (Gives w (newL most)) := by
  obtain ⟨i0, hi, hz0, hz1, hz2⟩ := info_parts info42
  have u22 : ∀ w, Sem.run Try.prog (underlying 22) w = .ok (TypeDesc.slice 42) w := run_underlying Try.underlying22
  have HS := Lib.hid hs
  clear hs
  go_enter Try.func14, Try.ntmps14
  go_wp2_with fail
  go_loopg [4, 6, 9] most.length (fun gg s4 _ s9 wr => ∃ kk : Nat, kk ≤ most.length ∧ most.length - kk ≤ gg ∧ s9 = .int .i64 kk ∧ wr.ownsRow w.heap.size 42 2 s4 kk ((most.take kk).flatMap fun x => Cls.enc ⟨x, 0⟩) ∧ Aside (Below w.heap.size w wr))
  case atStart => exact ⟨0, Nat.zero_le _, by omega, rfl, World.ownsRow_nil _ _ _ _, Below.refl _ w⟩
  case round =>
    obtain ⟨kk, hkk, hg, rfl, hown, BW⟩ := hrel
    by_cases hlt : kk < most.length
    · have hltz : (kk : Int) < (most.length : Int) := by omega
      obtain ⟨b, off, rfl, hq0⟩ := HS.out.at_ kk hlt
      have q1 := hq0 0 _ rfl
      rw [Nat.add_zero, Nat.mul_one] at q1
      rw [← BW.out.cell (World.block_lt_of_cell? w _ q1)] at q1
      clear hq0
      have hsn : Hid ((most.take (kk + 1)).flatMap (fun x => Cls.enc ⟨x, 0⟩) = (most.take kk).flatMap (fun x => Cls.enc ⟨x, 0⟩) ++ [.int .i64 most[kk]!, .int .i64 0]) := Lib.hid (by
        rw [List.take_succ_eq_append_getElem hlt, List.flatMap_append, getElem!_pos most kk hlt]; rfl)
      generalize most[kk]! = y at *
      generalize (most.take kk).flatMap (fun x => Cls.enc ⟨x, 0⟩) = cs at *
      go_wp2_with (at_builtin; refine wpList_append_own _ rfl _ _ 22 rfl w.heap.size 42 i0 _ 2 16 Try.underlying22 hi hz0 hz1 hz2 rfl (by decide) _ _ _ rfl (hown.alloc _) ⟨wr.heap.size, 0, none⟩ 1 1 [.int .i64 y, .int .i64 0] rfl rfl ?qc2 ?qc3 ?qc4 ?qc5 ?qc6 ?_)
      case qc2 =>
        exact fun j u hj => cell_new_block wr _ 42 j u hj
      case qc3 => intro u hu; simp at hu; rcases hu with rfl | rfl <;> rfl
      case qc4 => unfold maxLen; omega
      case qc5 => omega
      case qc6 => simp; have := BW.out.size; omega
      intro v' w1 hown' hgrow hnil
      rw [← hsn.out] at hown'
      have BW1 : Aside (Below w.heap.size w w1) := (BW.out.alloc BW.out.size _).grown hgrow (by simp; have := BW.out.size; omega) (fun k hk => (hown.lt k hk).1)
      clear hown hgrow hnil hsn BW
      go_wp2
      go_roundg (most.length - (kk + 1))
      case measure => omega
      case rel => exact ⟨kk + 1, by omega, by omega, by go_num, hown', BW1⟩
    · have hltz : ¬ (kk : Int) < (most.length : Int) := by omega
      have : kk = most.length := by omega
      subst this
      rw [List.take_length] at hown
      have hfm : most.flatMap (fun x => Cls.enc ⟨x, 0⟩) = (most.map (fun x => (⟨x, 0⟩ : Cls))).flatMap Cls.enc := by rw [List.flatMap_map]
      have hown2 : wr.ownsRow w.heap.size 42 2 u4 (most.map (fun x => (⟨x, 0⟩ : Cls))).length ((most.map (fun x => (⟨x, 0⟩ : Cls))).flatMap Cls.enc) := by rw [← hfm, List.length_map]; exact hown
      clear hfm hown
      have hne : newL most = if rightB (most.map (⟨·, 0⟩)) then (most.map (⟨·, 0⟩), 0) else ([], 1) := rfl
      generalize newL most = r at *
      generalize most.map (fun x => (⟨x, 0⟩ : Cls)) = l at *
      obtain ⟨A', c', rfl, hc', hsl⟩ := Sl.own Cls.enc_len hown2
      have hR := Right_any A' c' l wr hsl
      cases hr : rightB l with
      | true =>
        rw [hr] at hR hne
        have hne' := Lib.hid hne
        clear hr hne
        go_wp2_with (go_at_call 16; refine hR.mono ?_; rintro e w' ⟨rfl, hb'⟩)
        go_ret2
        rw [hne'.out]
        exact ⟨_, rfl, own_below hown2 hb', BW.out.trans (hb'.mono BW.out.size)⟩
      | false =>
        rw [hr] at hR hne
        have hne' := Lib.hid hne
        clear hr hne
        go_wp2_with (go_at_call 16; refine hR.mono ?_; rintro e w' ⟨rfl, hb'⟩)
        go_ret2
        rw [hne'.out]
        exact ⟨_, rfl, World.ownsRow_nil _ _ _ _, BW.out.trans (hb'.mono BW.out.size)⟩
end Go.Proofs.Ytcjlpgpmoleidaa
