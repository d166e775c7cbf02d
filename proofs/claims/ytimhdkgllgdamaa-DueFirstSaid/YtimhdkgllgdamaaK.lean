/- The walk of drained. -/
import Derived.Test.YtimhdkgllgdamaaJ
namespace Go.Proofs.Ytimhdkgllgdamaa
open Go.RowKit Go.Lib D
set_option linter.unusedVariables false

theorem assert30 (v : Value) (w : World) : (Instr.typeAssert (.iface 30 v) 20 30 false).run Try.prog w = .ok v w := by kernel_rfl
theorem Two.own {w w' : World} {x base e k n : Nat} {r : Option Nat} {v : Value} {cs : List Value} (t : Two w w' x r) (h : w.ownsRow base e k v n cs) (hx : ∀ y, v.ownBlock = some y → y ≠ x ∧ some y ≠ r) : w'.ownsRow base e k v n cs := by
  have hlt := h.lt
  refine ⟨h.1, ?_⟩
  rcases h.2 with hn | ⟨g, cap, cur, rfl, hb, hgg, rest⟩
  · exact .inl hn
  · refine .inr ⟨g, cap, cur, rfl, hb, ?_, rest⟩
    have h1 := hx g rfl
    rw [t.block g (hlt g rfl).2 h1.1 h1.2]
    exact hgg
theorem Two.far {w w1 w2 : World} {x : Nat} {r r1 : Option Nat} (h : Two w w1 x r) (hg : w1.grownBy w2 r1) (hr : ∀ y, r1 = some y → w.heap.size ≤ y) : Two w w2 x r :=
  ⟨hg.os.trans h.os, hg.tape.trans h.tape, hg.output.trans h.output, Nat.le_trans h.size hg.size, fun k hk hx hkr => by
    refine (hg.block k (Nat.lt_of_lt_of_le hk h.size) (fun e => ?_)).trans (h.block k hk hx hkr)
    have := hr k e.symm
    omega⟩
theorem HQ.grown {w w' : World} {QX base b n c : Nat} {l : List Du} {r : Option Nat} (h : HQ w QX base b n c l) (hg : w.grownBy w' r) (h1 : r ≠ some QX) (h2 : r ≠ some b) : HQ w' QX base b n c l := by
  have hk : w'.heap[QX]? = w.heap[QX]? := hg.block QX h.lt (Ne.symm h1)
  exact ⟨(World.cell?_of_block (w := w) (w' := w') (a := ⟨QX, 0, none⟩) hk).trans h.q, (World.frozen?_of_block (w := w) (w' := w') (a := ⟨QX, 0, none⟩) hk).trans h.fq, h.own.kept hg (.inr (by simp [Value.ownBlock]; exact fun e => h2 e.symm)), h.len, h.ne, Nat.lt_of_lt_of_le h.lt hg.size⟩

set_option maxHeartbeats 8000000 in
theorem drained_any (QX base n c : Nat) (A : Option Addr) (l s : List Du) (w : World) (h : HV w QX base n (.slice A n c) l) (hs : HeapOf l s) (hn1 : n ≤ 1000000) :
    Calls Try.prog 25 #[.pointer (some ⟨QX, 0, none⟩)] w fun e w' => ∃ v', e = .returned v' ∧ w'.ownsRow w.heap.size 30 2 v' n (s.flatMap Du.enc) ∧ Two w w' QX (Value.slice A n c).ownBlock := by
  obtain ⟨i0, hi, hz0, hz1, hz2⟩ := info_parts info30
  have HH := Lib.hid h
  have HS := Lib.hid hs
  have own0 := World.ownsRow_nil w w.heap.size 30 2
  have hta := assert30
  clear h hs
  go_enter Try.func25, Try.ntmps25
  go_wp2_with fail
  go_loopg [3] n (fun gg s3 wr => ∃ (m k : Nat) (lq dn rest : List Du), m ≤ gg ∧ k + m = n ∧ Aside (HV wr QX base m (.slice A m c) lq) ∧ Aside (HeapOf lq rest) ∧ wr.ownsRow w.heap.size 30 2 s3 k (dn.flatMap Du.enc) ∧ Aside (dn ++ rest = s) ∧ Aside (Two w wr QX (Value.slice A n c).ownBlock) ∧ Aside (dn.length = k))
  case atStart => exact ⟨n, 0, l, [], s, Nat.le_refl _, by omega, HH.out, HS.out, own0, rfl, Two.refl _ _ _, rfl⟩
  case round =>
    clear own0
    obtain ⟨m, k, lq, dn, rest, hg, hkm, h, hp, own, HE, HT, HL⟩ := hrel
    have hm1 := h.out.mlen
    have cL := fun w1 => len_any A m c w1
    have hmn : m ≤ 1000000 := by omega
    cases m with
    | zero =>
      have hx : dn = s := by
        have h1 := h.out.len
        have h2 := hp.out.perm.length_eq
        have h3 : rest = [] := List.length_eq_zero_iff.1 (by omega)
        have := HE.out
        rw [h3, List.append_nil] at this
        exact this
      have HX := Lib.hid hx
      obtain rfl : k = n := by omega
      clear hx h hp
      obtain ⟨A3, c3, rfl⟩ := own_shape own
      go_wp2_with fail
      refine (cL _).mono ?_
      rintro e w1 ⟨rfl, rfl⟩
      clear hm1
      go_wp2_with fail
      go_ret
      rw [← HX.out]
      exact ⟨_, rfl, own, HT.out⟩
    | succ m =>
      obtain ⟨b, c', e, hq⟩ := h.out.at_ (by omega)
      obtain ⟨rfl, rfl⟩ : A = some ⟨b, 0, none⟩ ∧ c = c' := by simpa using e
      have cP := hpop_any QX base b m c lq wr hq hmn
      obtain ⟨hp1, hp2, hp3⟩ := hp.out.pop hq.len
      have hrt := hp.out.root (by have := hq.len; omega)
      rw [hp1] at cP
      have hlt := own.lt
      obtain ⟨A3, c3, rfl⟩ := own_shape own
      have hbl := (HH.out.own.lt b rfl).2
      have hql := HH.out.lt
      have hne : ∀ y, (Value.slice A3 k c3).ownBlock = some y → y ≠ QX ∧ some y ≠ some b := fun y hy => by
        have := (own.lt y hy).1
        exact ⟨by omega, fun e => by injection e with e; omega⟩
      have HR := Lib.hid (And.intro hp3 hrt)
      clear hp1 hp2 hp3 hrt h hp e
      generalize lq[0]! = x at *
      have z0 : (0 : Int) < ((m + 1 : Nat) : Int) := by omega
      go_wp2_with fail
      refine (cL _).mono ?_
      rintro e w1 ⟨rfl, rfl⟩
      clear hm1
      go_wp2_with fail
      refine cP.mono ?_
      rintro e w2 ⟨rfl, h2, t2⟩
      clear cP hq
      have own2 : w2.ownsRow w.heap.size 30 2 (.slice A3 k c3) k (dn.flatMap Du.enc) := t2.own own hne
      go_wp2_with (at_builtin; refine wpList_as ?_)
      intro _
      refine wpList_append_own_at _ rfl _ _ 24 rfl w.heap.size 30 i0 _ 2 16 Try.underlying24 hi hz0 hz1 hz2 rfl (by decide) _ _ _ rfl (own2.alloc _) ⟨w2.heap.size, 0, none⟩ 1 1 [.int .i64 x.when_, .int .i64 x.which] rfl rfl (fun j u hj => cell_new_block w2 _ 30 j u hj) (by intro u hu; simp at hu; rcases hu with rfl | rfl <;> rfl) (by unfold maxLen; omega) (by omega) (by simp; have := HT.out.size; have := t2.size; omega) ?_
      intro v' w9 ownN hgrow hnil hat
      have hr1 : (Value.slice A3 k c3).ownBlock ≠ some QX := fun e => (hne _ e).1 rfl
      have hr2 : (Value.slice A3 k c3).ownBlock ≠ some b := fun e => (hne _ e).2 rfl
      have h9 := ((h2.below ((Below.refl _ _).alloc (Nat.le_refl _) (.cells #[.int .i64 x.when_, .int .i64 x.which] 30))).grown hgrow hr1 hr2).hv
      have t9 := ((HT.out.trans t2 (Row.refl _ _)).below ((Below.refl _ _).alloc (Nat.le_refl _) (.cells #[.int .i64 x.when_, .int .i64 x.which] 30))).far hgrow (fun y hy => (own.lt y hy).1)
      have hcs : dn.flatMap Du.enc ++ [.int .i64 x.when_, .int .i64 x.which] = (dn ++ [x]).flatMap Du.enc := by simp [Du.enc]
      rw [hcs] at ownN
      have hE9 : (dn ++ [x]) ++ rest.tail = s := by rw [List.append_assoc, List.singleton_append, ← HR.out.2]; exact HE.out
      have hL9 : (dn ++ [x]).length = k + 1 := by simp [HL.out]
      clear own own2 h2 t2 hgrow hat hnil hcs
      obtain ⟨A4, c4, rfl⟩ := own_shape ownN
      go_wp2_with fail
      go_roundg m
      case measure => omega
      case rel => exact ⟨m, k + 1, (popF lq m).take m, dn ++ [x], rest.tail, Nat.le_refl _, by omega, (show Aside _ from h9), (show Aside _ from HR.out.1), ownN, (show Aside _ from hE9), (show Aside _ from t9), (show Aside _ from hL9)⟩
end Go.Proofs.Ytimhdkgllgdamaa
