/- The plain law of CreditNever: what a take, a give and a move leave. -/
import Derived.Test.YtcjlpgpmoleidaaL
import Derived.Test.YtcjlpgpmoleidaaE
namespace Go.Proofs.Ytcjlpgpmoleidaa

def uo (l : List Cls) : List Int := l.map (·.used)
def ms (l : List Cls) : Int := (l.map (·.most)).sum
theorem sum_set : ∀ (l : List Int) (j : Nat) (x : Int), j < l.length → (l.set j x).sum = l.sum - l[j]! + x
  | [], j, _, h => absurd h (Nat.not_lt_zero _)
  | y :: l, 0, x, _ => by simp; omega
  | y :: l, j + 1, x, h => by
    have h' : j < l.length := by simpa using h
    have := sum_set l j x h'
    simp only [List.set_cons_succ, List.sum_cons, List.getElem!_cons_succ]
    omega
theorem map_at (l : List Cls) (f : Cls → Int) (j : Nat) (h : j < l.length) : (l.map f)[j]! = f l[j]! := by
  rw [getElem!_pos (l.map f) j (by simpa using h), getElem!_pos l j h]; simp
theorem uo_set (l : List Cls) (j : Nat) (x : Cls) : uo (l.set j x) = (uo l).set j x.used := by simp [uo, List.map_set]
theorem ms_set (l : List Cls) (j : Nat) (x : Cls) (h : j < l.length) : ms (l.set j x) = ms l - l[j]!.most + x.most := by
  unfold ms
  rw [List.map_set, sum_set _ _ _ (by simpa using h), map_at l _ j h]
theorem uo_at (l : List Cls) (j : Nat) (h : j < l.length) : (uo l)[j]! = l[j]!.used := map_at l _ j h
theorem set_same_int (l : List Int) (j : Nat) (h : j < l.length) : l.set j l[j]! = l := by rw [getElem!_pos l j h]; exact List.set_getElem_self h

/-- What a step leaves: still right, as many, as much room in all; an error leaves all as it is. -/
structure Keeps (l : List Cls) (r : List Cls × Int) : Prop where
  right : rightB r.1 = true
  len : r.1.length = l.length
  sum : ms r.1 = ms l
  err : r.2 ≠ 0 → r.1 = l

theorem take_cases (l : List Cls) (n many : Int) : (∃ e, e ≠ 0 ∧ takeL l n many = (l, e)) ∨ (∃ t, takeL l n many = (t, 0)) := by
  unfold takeL
  split
  · exact .inl ⟨1, by decide, rfl⟩
  · split
    · exact .inl ⟨6, by decide, rfl⟩
    · exact .inr ⟨_, rfl⟩
theorem give_cases (l : List Cls) (n many : Int) : (∃ e, e ≠ 0 ∧ giveL l n many = (l, e)) ∨ (∃ t, giveL l n many = (t, 0)) := by
  unfold giveL
  split
  · exact .inl ⟨1, by decide, rfl⟩
  · split
    · exact .inl ⟨7, by decide, rfl⟩
    · exact .inr ⟨_, rfl⟩
theorem move_cases (l : List Cls) (a b many : Int) : (∃ e, e ≠ 0 ∧ moveL l a b many = (l, e)) ∨ (∃ t, moveL l a b many = (t, 0)) := by
  unfold moveL
  split
  · exact .inl ⟨1, by decide, rfl⟩
  · split
    · exact .inl ⟨6, by decide, rfl⟩
    · exact .inr ⟨_, rfl⟩

theorem take_keeps {l : List Cls} (h : rightB l = true) (n many : Int) : Keeps l (takeL l n many) ∧ ((takeL l n many).2 = 0 → ∃ j : Nat, n = j ∧ j < l.length ∧ uo (takeL l n many).1 = (uo l).set j (l[j]!.used + many)) := by
  rcases take_cases l n many with ⟨e, he, hr⟩ | ⟨t, hr⟩
  · rw [hr]; exact ⟨⟨h, rfl, rfl, fun _ => rfl⟩, fun h0 => absurd h0 he⟩
  · rw [hr]
    obtain ⟨j, rfl, hj, _, h0, h1, rfl⟩ := takeL_ok hr
    obtain ⟨g1, g2, g3, g4⟩ := rightB_at h j hj
    exact ⟨⟨rightB_set h _ _ _ (okC_mk (by omega) (by omega) (by omega)), by simp, by rw [ms_set _ _ _ hj]; simp only; omega, fun h => absurd rfl h⟩, fun _ => ⟨j, rfl, hj, uo_set _ _ _⟩⟩
theorem giveL_ok {l t : List Cls} {n many : Int} (h : giveL l n many = (t, 0)) : ∃ j : Nat, n = j ∧ j < l.length ∧ rightB l = true ∧ 0 ≤ many ∧ many ≤ l[j]!.used ∧ t = l.set j ⟨l[j]!.most, l[j]!.used - many⟩ := by
  unfold giveL at h
  split at h
  · simp at h
  · rename_i h1
    split at h
    · simp at h
    · rename_i h2
      have hh : hasB l n = true := by
        cases hb : hasB l n with
        | true => rfl
        | false => exact absurd (.inl hb) h1
      obtain ⟨hr, h3, h4⟩ := hasB_iff.1 hh
      obtain ⟨j, rfl⟩ := Int.eq_ofNat_of_zero_le h3
      simp only [Int.toNat_natCast, Prod.mk.injEq, and_true] at h h2
      exact ⟨j, rfl, by omega, hr, by omega, by omega, h.symm⟩
theorem give_keeps {l : List Cls} (h : rightB l = true) (n many : Int) : Keeps l (giveL l n many) ∧ ((giveL l n many).2 = 0 → ∃ j : Nat, n = j ∧ j < l.length ∧ uo (giveL l n many).1 = (uo l).set j (l[j]!.used - many)) := by
  rcases give_cases l n many with ⟨e, he, hr⟩ | ⟨t, hr⟩
  · rw [hr]; exact ⟨⟨h, rfl, rfl, fun _ => rfl⟩, fun h0 => absurd h0 he⟩
  · rw [hr]
    obtain ⟨j, rfl, hj, _, h0, h1, rfl⟩ := giveL_ok hr
    obtain ⟨g1, g2, g3, g4⟩ := rightB_at h j hj
    exact ⟨⟨rightB_set h _ _ _ (okC_mk (by omega) (by omega) (by omega)), by simp, by rw [ms_set _ _ _ hj]; simp only; omega, fun h => absurd rfl h⟩, fun _ => ⟨j, rfl, hj, uo_set _ _ _⟩⟩
theorem move_keeps {l : List Cls} (h : rightB l = true) (a b many : Int) : Keeps l (moveL l a b many) ∧ uo (moveL l a b many).1 = uo l := by
  rcases move_cases l a b many with ⟨e, he, hr⟩ | ⟨t, hr⟩
  · rw [hr]; exact ⟨⟨h, rfl, rfl, fun _ => rfl⟩, rfl⟩
  · rw [hr]
    obtain ⟨j, i, rfl, rfl, hj, hi, _, h0, h1, h2, rfl⟩ := moveL_ok hr
    obtain ⟨g1, g2, g3, g4⟩ := rightB_at h j hj
    obtain ⟨f1, f2, f3, f4⟩ := rightB_at h i hi
    by_cases e : j = i
    · subst e
      rw [mvs l j hj]
      exact ⟨⟨h, rfl, rfl, fun _ => rfl⟩, rfl⟩
    · rw [mvd l j i hi e]
      have h3 := h2 e
      refine ⟨⟨rightB_set (rightB_set h _ _ _ (okC_mk (by omega) (by omega) (by omega))) _ _ _ (okC_mk (by omega) (by omega) (by omega)), by simp, ?_, fun h => absurd rfl h⟩, ?_⟩
      · rw [ms_set _ _ _ (by simpa using hi), ms_set _ _ _ hj, get_set_ne l j i _ hi e]; simp only; omega
      · rw [uo_set, uo_set]
        simp only
        rw [← uo_at l j hj, set_same_int _ _ (by simpa [uo] using hj), ← uo_at l i hi, set_same_int _ _ (by simpa [uo] using hi)]

theorem newL_ok (l : List Int) (h1 : 1 ≤ l.length) (h2 : l.length ≤ 8) (h : ∀ x ∈ l, 0 ≤ x ∧ x ≤ 255) : newL l = (l.map (⟨·, 0⟩), 0) ∧ rightB (l.map (⟨·, 0⟩)) = true := by
  have hr : rightB (l.map (⟨·, 0⟩)) = true := by
    simp only [rightB, List.length_map, h1, h2, and_self, decide_true, Bool.true_and, List.all_eq_true]
    intro x hx
    obtain ⟨y, hy, rfl⟩ := List.mem_map.1 hx
    have := h y hy
    exact okC_mk (by simp only; omega) (by simp) (by simp only; omega)
  exact ⟨by unfold newL; rw [if_pos hr], hr⟩
theorem uo_new (l : List Int) : uo (l.map (⟨·, 0⟩)) = List.replicate l.length 0 := by
  simp [uo, List.map_map, Function.comp_def, List.map_const']
theorem ms_new (l : List Int) : ms (l.map (⟨·, 0⟩)) = l.sum := by
  simp [ms, List.map_map, Function.comp_def]
end Go.Proofs.Ytcjlpgpmoleidaa
