/- Walks of the credit package: Clone, has, Room, Take, Give, Move, New. -/
import Derived.Test.YtcjlpgpmoleidaaA
import Derived.Lib.SliceRun
import Derived.Lib.Walk
namespace Go.Proofs.Ytcjlpgpmoleidaa
open Go.RowKit Go.Lib

theorem info42 : (Try.prog.info? 42).map (fun i => (i.zero, i.size, i.bytes)) = some (some (.agg #[.int .i64 0, .int .i64 0]), 2, 16) := by kernel_rfl

set_option maxHeartbeats 2000000 in
set_option maxRecDepth 100000 in
theorem clone_any (A : Option Addr) (c : Nat) (l : List Cls) (w : World) (hs : Sl 2 Cls.enc w A l) (hsmall : l.length ≤ 1000000) :
    Calls Try.prog 20 #[.slice A l.length c] w fun e w' => ∃ v', e = .returned v' ∧ w'.ownsRow w.heap.size 42 2 v' l.length (l.flatMap Cls.enc) ∧ Below w.heap.size w w' := by
  obtain ⟨i0, hi, hz0, hz1, hz2⟩ := info_parts info42
  have q22 : ∀ (w : World) (a : Option Addr) (n c n' c' : Nat), (binOp .eql 22 (.slice a n c) (.slice none n' c')).run Try.prog w = .ok (.bool a.isNone) w := fun w a n c n' c' => Lib.run_eql_slice_nil w _ _ a n c n' c' Try.underlying22
  have u22 : ∀ w, Sem.run Try.prog (underlying 22) w = .ok (TypeDesc.slice 42) w := run_underlying Try.underlying22
  cases A with
  | none =>
    have : l = [] := by
      by_cases h : l = []
      · exact h
      · obtain ⟨b, off, e, _⟩ := hs.cell h
        simp at e
    subst this
    go_enter Try.func20, Try.ntmps20
    go_wp2
    go_ret
    exact ⟨_, rfl, World.ownsRow_nil _ _ _ _, Below.refl _ _⟩
  | some ad =>
    have A' : Aside (∀ j u, (l.flatMap Cls.enc)[j]? = some u → (w.alloc (.cells #[] 42)).cell? (ad.add j) = some u) := fun j u hj =>
      (hs.below ((Below.refl _ w).alloc (Nat.le_refl _) _)).flat Cls.enc_len (by decide) rfl j u hj
    have hl := flat_length Cls.enc_len l
    have h1 : ∀ u ∈ l.flatMap Cls.enc, u.oneCell' = true := by
      intro u hu
      obtain ⟨x, _, hx⟩ := List.mem_flatMap.1 hu
      simp [Cls.enc] at hx
      rcases hx with rfl | rfl <;> rfl
    generalize l.flatMap Cls.enc = news at *
    generalize l.length = n at *
    clear hs
    go_enter Try.func20, Try.ntmps20
    go_wp2_with (at_builtin; refine wpList_append_own _ rfl _ _ 22 rfl w.heap.size 42 i0 _ 2 16 Try.underlying22 hi hz0 hz1 hz2 rfl (by decide) _ _ _ rfl (World.ownsRow_made w #[] 0 (Nat.le_refl _) (Nat.zero_le _) (by simp)) ad n c news rfl ?qc1 ?qc2 ?qc3 ?qc4 ?qc5 ?qc6 ?_)
    case qc1 => exact hl
    case qc2 => exact A'.out
    case qc3 => exact h1
    case qc4 => unfold maxLen; omega
    case qc5 => omega
    case qc6 => simp
    intro v' w1 hown hgrow hnil
    go_wp2
    go_ret
    refine ⟨v', rfl, by simpa using hown, ?_⟩
    exact ((Below.refl _ w).alloc (Nat.le_refl _) _).grown hgrow (by simp) (by intro k hk; simp [Value.ownBlock] at hk; omega)

def hasB (l : List Cls) (n : Int) : Bool := rightB l && decide (0 ≤ n ∧ n < l.length)
set_option maxHeartbeats 400000 in
theorem has_any (A : Option Addr) (c : Nat) (l : List Cls) (n : Int) (w : World) (hs : Sl 2 Cls.enc w A l) :
    Calls Try.prog 21 #[.slice A l.length c, .int .i64 n] w fun e w' => e = .returned (.bool (hasB l n)) ∧ Below w.heap.size w w' := by
  have hbig := hs.big
  have h := Right_any A c l w hs
  unfold hasB
  generalize rightB l = r at h
  cases r with
  | false =>
    simp only [Bool.false_and]
    go_enter Try.func21, Try.ntmps21
    go_wp2_with (go_at_call 16; refine h.mono ?_; rintro e w' ⟨rfl, hb'⟩)
    go_ret
    exact ⟨rfl, hb'⟩
  | true =>
    simp only [Bool.true_and]
    by_cases h1 : 0 ≤ n
    · by_cases h2 : n < l.length
      all_goals
        simp only [h1, h2, true_and, and_self, decide_true, decide_false]
        go_enter Try.func21, Try.ntmps21
        go_wp2_with (go_at_call 16; refine h.mono ?_; rintro e w' ⟨rfl, hb'⟩)
        go_ret
        exact ⟨by simp [h2], hb'⟩
    · simp only [h1, false_and, decide_false]
      go_enter Try.func21, Try.ntmps21
      go_wp2_with (go_at_call 16; refine h.mono ?_; rintro e w' ⟨rfl, hb'⟩)
      go_ret
      exact ⟨rfl, hb'⟩

def roomI (l : List Cls) (n : Int) : Int := if hasB l n then l[n.toNat]!.most - l[n.toNat]!.used else 0

theorem rightB_at {l : List Cls} (h : rightB l = true) (j : Nat) (hj : j < l.length) : 0 ≤ l[j]!.most ∧ l[j]!.most ≤ 1000 ∧ 0 ≤ l[j]!.used ∧ l[j]!.used ≤ l[j]!.most := by
  simp only [rightB, Bool.and_eq_true, List.all_eq_true] at h
  have := h.2 l[j] (List.getElem_mem hj)
  rw [getElem!_pos l j hj]
  simpa [okC] using this

set_option maxHeartbeats 400000 in
theorem room1_any (m u : Int) (w : World) (h1 : 0 ≤ m) (h2 : m ≤ 1000) (h3 : 0 ≤ u) (h4 : u ≤ m) :
    Calls Try.prog 27 #[.agg #[.int .i64 m, .int .i64 u]] w fun e w' => e = .returned (.int .i64 (m - u)) ∧ Below w.heap.size w w' := by
  have hb : Below w.heap.size w (w.alloc (Obj.cells #[Value.int IntKind.i64 m, Value.int IntKind.i64 u] 49)) := (Below.refl _ _).alloc (Nat.le_refl _) _
  go_enter Try.func27, Try.ntmps27
  go_wp2
  go_ret
  exact ⟨by simp, hb⟩

set_option maxHeartbeats 400000 in
theorem Room_any (A : Option Addr) (c : Nat) (l : List Cls) (n : Int) (w : World) (hs : Sl 2 Cls.enc w A l) :
    Calls Try.prog 18 #[.slice A l.length c, .int .i64 n] w fun e w' => e = .returned (.int .i64 (roomI l n)) ∧ Below w.heap.size w w' := by
  have hbig := hs.big
  have h := has_any A c l n w hs
  unfold roomI
  cases hh : hasB l n with
  | false =>
    rw [hh] at h
    simp only [Bool.false_eq_true, if_false]
    clear hh
    go_enter Try.func18, Try.ntmps18
    go_wp2_with (go_at_call 21; refine h.mono ?_; rintro e w' ⟨rfl, hb'⟩)
    go_ret
    exact ⟨rfl, hb'⟩
  | true =>
    rw [hh] at h
    simp only [if_true]
    obtain ⟨hr, h1, h2⟩ : rightB l = true ∧ 0 ≤ n ∧ n < l.length := by simpa [hasB] using hh
    obtain ⟨j, rfl⟩ := Int.eq_ofNat_of_zero_le h1
    rw [Int.toNat_natCast]
    have hj : j < l.length := by omega
    obtain ⟨g1, g2, g3, g4⟩ := rightB_at hr j hj
    obtain ⟨b, off, rfl, hq0⟩ := hs.at_ j hj
    have q1 := hq0 0 _ rfl
    have q2 := hq0 1 _ rfl
    rw [Nat.add_zero] at q1
    have HS := Lib.hid hs
    clear hh hs hr hq0 
    generalize l[j]! = y at *
    go_enter Try.func18, Try.ntmps18
    go_wp2_with (first | (go_at_call 21; refine h.mono ?_; rintro e w' ⟨rfl, hb'⟩; rw [← hb'.cell (World.block_lt_of_cell? w _ q1)] at q1; rw [← hb'.cell (World.block_lt_of_cell? w _ q2)] at q2) | (go_at_call 27; refine (room1_any y.most y.used _ g1 g2 g3 g4).mono ?_; rintro e w2 ⟨rfl, hb2⟩))
    go_ret
    exact ⟨rfl, hb'.trans (hb2.mono hb'.size)⟩
end Go.Proofs.Ytcjlpgpmoleidaa
