/- The walk of due.Come. -/
import Derived.Test.YtimhdkgllgdamaaP
namespace Go.Proofs.Ytimhdkgllgdamaa
open Go.RowKit Go.Lib D
set_option linter.unusedVariables false

def encI (x : Int) : List Value := [.int .i64 x]
theorem encI_len (x : Int) : (encI x).length = 1 := rfl
theorem encI_one (x : Int) : ∀ u ∈ encI x, u.oneCell' = true := by
  intro u hu
  simp [encI] at hu
  subst hu; rfl
theorem info3 : (Try.prog.info? 3).map (fun i => (i.zero, i.size, i.bytes)) = some (some (.int .i64 0), 1, 8) := by kernel_rfl
theorem field30 (a b : Value) (w : World) : (Instr.field 30 (.agg #[a, b]) 1).run Try.prog w = .ok b w := by kernel_rfl
/-- What Come hands back. -/
def GivesC (w : World) (r : List Du × List Int × Int) (e : Ending) (w' : World) : Prop :=
  ∃ A c B d, e = .returned (.tuple #[.slice A r.1.length c, .slice B r.2.1.length d, .int .i64 r.2.2]) ∧ w'.ownsRow w.heap.size 30 2 (.slice A r.1.length c) r.1.length (r.1.flatMap Du.enc) ∧
    w'.ownsRow w.heap.size 3 1 (.slice B r.2.1.length d) r.2.1.length (r.2.1.flatMap encI) ∧ Below w.heap.size w w'
theorem givesC_of {w w' : World} {l : List Du} {ks : List Int} {k : Int} {v v2 : Value} {n n2 b b2 : Nat} (own : w'.ownsRow b 30 2 v n (l.flatMap Du.enc)) (own2 : w'.ownsRow b2 3 1 v2 n2 (ks.flatMap encI)) (hn : l.length = n) (hn2 : ks.length = n2) (hb : w.heap.size ≤ b) (hb2 : w.heap.size ≤ b2) (bb : Below w.heap.size w w') :
    GivesC w (l, ks, k) (.returned (.tuple #[v, v2, .int .i64 k])) w' := by
  subst hn
  subst hn2
  obtain ⟨A, c, rfl⟩ := own_shape own
  obtain ⟨B, d, rfl⟩ := own_shape own2
  exact ⟨A, c, B, d, rfl, own_weaken' own hb, own_weaken' own2 hb2, bb⟩

set_option maxHeartbeats 16000000 in
theorem come_any (A : Option Addr) (c n : Nat) (l : List Du) (now : Int) (w : World) (hs : Sl 2 Du.enc w A l) (hn : l.length = n) (hn1 : n ≤ 1000000) :
    Calls Try.prog 8 #[.slice A n c, .int .i64 now] w (GivesC w (comeD l now)) := by
  obtain ⟨i0, hi, hz0, hz1, hz2⟩ := info_parts info3
  have cC := clone_any A c n l w hs hn hn1
  have cR := fun w1 (h : Sl 2 Du.enc w1 A l) => right_any A c n l w1 h hn hn1
  have HN := Lib.hid hn
  have HS := Lib.hid hs
  have hta := assert30
  have htf := field30
  clear hn hs
  cases hr : rightD l with
  | false =>
    have hA : comeD l now = (l, [], 1) := by unfold comeD; rw [if_neg (fun h => by rw [hr] at h; exact absurd h (by decide))]
    rw [hA]
    rw [hr] at cR
    clear hA hr hta htf
    go_enter Try.func8, Try.ntmps8
    go_wp2_with fail
    refine cC.mono ?_
    rintro e w1 ⟨v1, rfl, own1, hb1⟩
    clear cC
    obtain ⟨A3, c3, rfl⟩ := own_shape own1
    have h3 := HV.new own1 HN.out
    have bn : Below w1.heap.size w1 (w1.alloc (.cells #[.slice A3 n c3] 49)) := (Below.refl _ _).alloc (Nat.le_refl _) _
    have cS := cR _ ((HS.out.below hb1).below bn)
    have hb2 := hb1.trans (bn.mono hb1.size)
    clear cR bn
    go_wp2_with fail
    generalize w1.alloc (.cells #[.slice A3 n c3] 49) = w2 at *
    generalize w1.heap.size = QX at *
    refine cS.mono ?_
    rintro e w3 ⟨rfl, hb3⟩
    have h4 := h3.below hb3
    have q := h4.q
    have hb4 := hb2.trans (hb3.mono hb2.size)
    clear cS h3 own1
    go_wp2_with fail
    go_ret3
    exact givesC_of h4.own (World.ownsRow_nil _ w.heap.size _ _) HN.out rfl (Nat.le_refl _) (Nat.le_refl _) hb4
  | true =>
    have hA : comeD l now = (l.filter (fun x => decide (now < x.when_)), (l.filter (fun x => decide (x.when_ ≤ now))).map Du.which, 0) := by unfold comeD; rw [if_pos hr]
    have hHO := Lib.hid (HeapOf.of_sorted (right_sorted hr))
    rw [hA]
    rw [hr] at cR
    clear hA hr
    go_enter Try.func8, Try.ntmps8
    go_wp2_with fail
    refine cC.mono ?_
    rintro e w1 ⟨v1, rfl, own1, hb1⟩
    clear cC
    obtain ⟨A3, c3, rfl⟩ := own_shape own1
    have h3 := HV.new own1 HN.out
    have bn : Below w1.heap.size w1 (w1.alloc (.cells #[.slice A3 n c3] 49)) := (Below.refl _ _).alloc (Nat.le_refl _) _
    have cS := cR _ ((HS.out.below hb1).below bn)
    clear cR bn
    go_wp2_with fail
    refine cS.mono ?_
    rintro e w3 ⟨rfl, hb3⟩
    have h4 := h3.below hb3
    have T0 := (Two.refl (w1.alloc (.cells #[.slice A3 n c3] 49)) w1.heap.size (Value.slice A3 n c3).ownBlock).below hb3
    have H4 := Lib.hid h4
    have own0 := World.ownsRow_nil w3 (w1.alloc (.cells #[.slice A3 n c3] 49)).heap.size 3 1
    have hQB : w1.heap.size < (w1.alloc (.cells #[.slice A3 n c3] 49)).heap.size := by simp
    have hRB : ∀ g, (Value.slice A3 n c3).ownBlock = some g → g < w1.heap.size := fun g hg => (own1.lt g hg).2
    have HSI : ∀ wz, Two (w1.alloc (.cells #[.slice A3 n c3] 49)) wz w1.heap.size (Value.slice A3 n c3).ownBlock → Below w.heap.size w wz := fun wz t => Two.since hb1 hb1.size own1 (Nat.le_refl _) t
    have hwQ := hb1.size
    clear cS h3 h4 own1 hb3 hb1
    go_wp2_with fail
    generalize w1.alloc (.cells #[.slice A3 n c3] 49) = W1 at *
    generalize w1.heap.size = QX at *
    go_loopg [8] n (fun gg s8 wr => ∃ (m k : Nat) (lq dn rest : List Du), m ≤ gg ∧ k + m = n ∧ Aside (HV wr QX w.heap.size m (.slice A3 m c3) lq) ∧ Aside (HeapOf lq rest) ∧ wr.ownsRow W1.heap.size 3 1 s8 k ((dn.map Du.which).flatMap encI) ∧ Aside (dn ++ rest = l) ∧ Aside (∀ x ∈ dn, x.when_ ≤ now) ∧ Aside (Two W1 wr QX (Value.slice A3 n c3).ownBlock) ∧ Aside (dn.length = k))
    case atStart => exact ⟨n, 0, l, [], l, Nat.le_refl _, by omega, H4.out, hHO.out, own0, rfl, (show Aside _ from fun x hx => by cases hx), T0, rfl⟩
    case round =>
      clear own0 T0 H4
      obtain ⟨m, k, lq, dn, rest, hg, hkm, h, hp, own, HE, HA, HT, HL⟩ := hrel
      have q := h.out.q
      have hmn : m ≤ 1000000 := by omega
      cases m with
      | zero =>
        have cL := fun w1 => len_any A3 0 c3 w1
        have hr0 : rest = [] := List.length_eq_zero_iff.1 (by have h1 := h.out.len; have h2 := hp.out.perm.length_eq; omega)
        have hsp := split_at HE.out HA.out (now := now) (fun x hx => by rw [hr0] at hx; cases hx)
        have cE := drained_any QX w.heap.size 0 c3 A3 lq rest wr h.out hp.out hmn
        have hl0 : rest.length = 0 := by rw [hr0]; rfl
        have HSP := Lib.hid hsp
        have HL0 := Lib.hid hl0
        clear hsp hl0 h hp
        obtain ⟨B3, d3, rfl⟩ := own_shape own
        go_wp2_with fail
        refine (cL _).mono ?_
        rintro e w1' ⟨rfl, rfl⟩
        go_wp2_with fail
        refine cE.mono ?_
        rintro e w5 ⟨v5, rfl, own5, t5⟩
        clear cE
        rw [show (Value.slice A3 0 c3).ownBlock = (Value.slice A3 n c3).ownBlock by cases A3 <;> rfl] at t5
        have own6 := t5.own own (fun y hy => by
          have h1 := (own.lt y hy).1
          refine ⟨by omega, fun e => ?_⟩
          have := hRB _ e.symm
          omega)
        have b5 := HSI _ (HT.out.trans t5 (Row.refl _ _))
        have hsz := HT.out.size
        obtain ⟨A5, c5, rfl⟩ := own_shape own5
        clear t5
        go_wp2_with fail
        go_ret3
        rw [HSP.out.1, HSP.out.2]
        exact givesC_of own5 own6 HL0.out (by rw [List.length_map]; exact HL.out) (by omega) (by omega) b5
      | succ m =>
        obtain ⟨b, c', e, hq⟩ := h.out.at_ (by omega)
        obtain ⟨rfl, rfl⟩ : A3 = some ⟨b, 0, none⟩ ∧ c3 = c' := by simpa using e
        have cL := fun w1 => len_any (some ⟨b, 0, none⟩) (m + 1) c3 w1
        have hrt := hp.out.root (by have := hq.len; omega)
        have q0 : wr.cell? ⟨b, 0, none⟩ = some (.int .i64 lq[0]!.when_) := own_cell hq.own 0 _ (by have := flat_at Du.enc_len lq 0 0 _ (by have := hq.len; omega) rfl; simpa using this)
        have z0 : (0 : Int) < ((m + 1 : Nat) : Int) := by omega
        have z1 : 0 < m + 1 := by omega
        by_cases hw : lq[0]!.when_ ≤ now
        · have cP := hpop_any QX w.heap.size b m c3 lq wr hq hmn
          obtain ⟨hp1, hp2, hp3⟩ := hp.out.pop hq.len
          rw [hp1] at cP
          have hlt := own.lt
          have HR := Lib.hid (And.intro hp3 hrt)
          clear hp1 hp2 hp3 hrt h hp e
          generalize lq[0]! = x at *
          have HW := Lib.hid hw
          obtain ⟨B3, d3, rfl⟩ := own_shape own
          have hbl := hRB b rfl
          have hne : ∀ y, (Value.slice B3 k d3).ownBlock = some y → y ≠ QX ∧ some y ≠ some b := fun y hy => by
            have := (own.lt y hy).1
            exact ⟨by omega, fun e => by injection e with e; omega⟩
          go_wp2_with fail
          refine (cL _).mono ?_
          rintro e w1' ⟨rfl, rfl⟩
          go_wp2_with fail
          refine cP.mono ?_
          rintro e w2 ⟨rfl, h2, t2⟩
          clear cP hq q0 q
          have own2 := t2.own own hne
          go_wp2_with (at_builtin; refine wpList_as ?_)
          intro _
          refine wpList_append_own_at _ rfl _ _ 31 rfl W1.heap.size 3 i0 _ 1 8 Try.underlying31 hi hz0 hz1 hz2 rfl (by decide) _ _ _ rfl (own2.alloc _) ⟨w2.heap.size, 0, none⟩ 1 1 [.int .i64 x.which] rfl rfl (fun j u hj => cell_new_block w2 _ 3 j u hj) (by intro u hu; simp at hu; subst hu; rfl) (by unfold maxLen; omega) (by omega) (by simp; have := HT.out.size; have := t2.size; omega) ?_
          intro v' w9 ownN hgrow hnil hat
          have hr1 : (Value.slice B3 k d3).ownBlock ≠ some QX := fun e => (hne _ e).1 rfl
          have hr2 : (Value.slice B3 k d3).ownBlock ≠ some b := fun e => (hne _ e).2 rfl
          have h9 := ((h2.below ((Below.refl _ _).alloc (Nat.le_refl _) (.cells #[.int .i64 x.which] 3))).grown hgrow hr1 hr2).hv
          have t9 := ((HT.out.trans t2 (Row.refl _ _)).below ((Below.refl _ _).alloc (Nat.le_refl _) (.cells #[.int .i64 x.which] 3))).far hgrow (fun y hy => (own.lt y hy).1)
          have hcs : (dn.map Du.which).flatMap encI ++ [.int .i64 x.which] = ((dn ++ [x]).map Du.which).flatMap encI := by simp [encI]
          rw [hcs] at ownN
          have hE9 : (dn ++ [x]) ++ rest.tail = l := by rw [List.append_assoc, List.singleton_append, ← HR.out.2]; exact HE.out
          have hA9 : ∀ y ∈ dn ++ [x], y.when_ ≤ now := fun y hy => by
            rcases List.mem_append.1 hy with hy | hy
            · exact HA.out y hy
            · rw [List.mem_singleton] at hy; subst hy; exact HW.out
          have hL9 : (dn ++ [x]).length = k + 1 := by simp [HL.out]
          clear own own2 h2 t2 hgrow hat hnil hcs
          obtain ⟨A4, c4, rfl⟩ := own_shape ownN
          go_wp2_with fail
          go_roundg m
          case measure => omega
          case rel => exact ⟨m, k + 1, (popF lq m).take m, dn ++ [x], rest.tail, Nat.le_refl _, by omega, (show Aside _ from h9), (show Aside _ from HR.out.1), ownN, (show Aside _ from hE9), (show Aside _ from hA9), (show Aside _ from t9), (show Aside _ from hL9)⟩
        · have hlater : ∀ x ∈ rest, now < x.when_ := by
            rw [hrt]
            exact later (by rw [← hrt]; exact hp.out.sorted) (by omega)
          have hsp := split_at HE.out HA.out (now := now) hlater
          have cE := drained_any QX w.heap.size (m + 1) c3 (some ⟨b, 0, none⟩) lq rest wr h.out hp.out hmn
          have hl0 : rest.length = m + 1 := by have h1 := h.out.len; have h2 := hp.out.perm.length_eq; omega
          clear hlater hrt hq e
          generalize lq[0]! = x at *
          have HSP := Lib.hid hsp
          have HL0 := Lib.hid hl0
          clear hsp hl0 h hp
          obtain ⟨B3, d3, rfl⟩ := own_shape own
          go_wp2_with fail
          refine (cL _).mono ?_
          rintro e w1' ⟨rfl, rfl⟩
          go_wp2_with fail
          refine cE.mono ?_
          rintro e w5 ⟨v5, rfl, own5, t5⟩
          clear cE
          rw [show (Value.slice (some ⟨b, 0, none⟩) (m + 1) c3).ownBlock = (Value.slice (some ⟨b, 0, none⟩) n c3).ownBlock by rfl] at t5
          have own6 := t5.own own (fun y hy => by
            have h1 := (own.lt y hy).1
            refine ⟨by omega, fun e => ?_⟩
            have := hRB _ e.symm
            omega)
          have b5 := HSI _ (HT.out.trans t5 (Row.refl _ _))
          have hsz := HT.out.size
          obtain ⟨A5, c5, rfl⟩ := own_shape own5
          clear t5
          go_wp2_with fail
          go_ret3
          rw [HSP.out.1, HSP.out.2]
          exact givesC_of own5 own6 HL0.out (by rw [List.length_map]; exact HL.out) (by omega) (by omega) b5
end Go.Proofs.Ytimhdkgllgdamaa
