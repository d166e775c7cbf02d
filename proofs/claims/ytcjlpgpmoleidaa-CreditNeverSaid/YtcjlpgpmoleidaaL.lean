/- The plain law of layer 20: what is taken is given back, what is moved is moved back, two takes meet. -/
import Derived.Test.YtcjlpgpmoleidaaD
namespace Go.Proofs.Ytcjlpgpmoleidaa

theorem takeL_len (l : List Cls) (n many : Int) : (takeL l n many).1.length = l.length := by unfold takeL; split; rfl; split <;> simp
theorem giveL_len (l : List Cls) (n many : Int) : (giveL l n many).1.length = l.length := by unfold giveL; split; rfl; split <;> simp
theorem mv1_len (l : List Cls) (a many : Int) : (mv1 l a many).length = l.length := by simp [mv1]
theorem moveL_len (l : List Cls) (a b many : Int) : (moveL l a b many).1.length = l.length := by unfold moveL; split; rfl; split <;> simp [mv1_len]

theorem rightB_set {l : List Cls} (h : rightB l = true) (j : Nat) (m u : Int) (hok : okC m u = true) : rightB (l.set j ⟨m, u⟩) = true := by
  simp only [rightB, Bool.and_eq_true, List.length_set, List.all_eq_true] at h ⊢
  refine ⟨h.1, fun x hx => ?_⟩
  rcases List.mem_or_eq_of_mem_set hx with hx | rfl
  · exact h.2 x hx
  · exact hok
theorem hasB_set {l : List Cls} {n : Int} (h : hasB l n = true) (j : Nat) (m u : Int) (hok : okC m u = true) : hasB (l.set j ⟨m, u⟩) n = true := by
  rw [hasB_iff] at h ⊢
  exact ⟨rightB_set h.1 j m u hok, h.2.1, by simpa using h.2.2⟩
theorem okC_mk {m u : Int} (h1 : m ≤ 1000) (h2 : 0 ≤ u) (h3 : u ≤ m) : okC m u = true := by simp [okC]; omega
theorem get_set (l : List Cls) (j : Nat) (x : Cls) (h : j < l.length) : (l.set j x)[j]! = x := by rw [getElem!_pos _ j (by simpa using h)]; simp
theorem get_set_ne (l : List Cls) (j i : Nat) (x : Cls) (h : i < l.length) (hne : ¬ j = i) : (l.set j x)[i]! = l[i]! := by
  rw [getElem!_pos (l.set j x) i (by simpa using h), getElem!_pos l i h, List.getElem_set_ne hne]
theorem set_self' (l : List Cls) (j : Nat) (hj : j < l.length) : l.set j ⟨l[j]!.most, l[j]!.used⟩ = l := by
  rw [getElem!_pos l j hj]; exact List.set_getElem_self hj

/-- What a take that goes says. -/
theorem takeL_ok {l t : List Cls} {n many : Int} (h : takeL l n many = (t, 0)) : ∃ j : Nat, n = j ∧ j < l.length ∧ rightB l = true ∧ 0 ≤ many ∧ many ≤ l[j]!.most - l[j]!.used ∧ t = l.set j ⟨l[j]!.most, l[j]!.used + many⟩ := by
  unfold takeL at h
  split at h
  · simp at h
  · rename_i h1
    split at h
    · simp at h
    · rename_i h2
      have hh : hasB l n = true := by
        cases hb : hasB l n with
        | true => rfl
        | false => exact absurd (.inl hb) h1
      obtain ⟨hr, h3, h4⟩ := hasB_iff.1 hh
      obtain ⟨j, rfl⟩ := Int.eq_ofNat_of_zero_le h3
      simp [roomI, hh] at h2
      simp only [Int.toNat_natCast, Prod.mk.injEq, and_true] at h
      exact ⟨j, rfl, by omega, hr, by omega, by simpa using h2, h.symm⟩
theorem takeL_mk {l : List Cls} {j : Nat} {many : Int} (hj : j < l.length) (hr : rightB l = true) (h0 : 0 ≤ many) (h1 : many ≤ l[j]!.most - l[j]!.used) : takeL l j many = (l.set j ⟨l[j]!.most, l[j]!.used + many⟩, 0) := by
  have hh : hasB l j = true := hasB_iff.2 ⟨hr, by omega, by omega⟩
  have hri : roomI l j = l[j]!.most - l[j]!.used := by simp [roomI, hh]
  unfold takeL
  rw [if_neg (by rw [hh]; rintro (h | h); cases h; omega), hri, if_neg (by omega), Int.toNat_natCast]

theorem take_give {l t : List Cls} {n many : Int} (h : takeL l n many = (t, 0)) : giveL t n many = (l, 0) := by
  obtain ⟨j, rfl, hj, hr, h0, h1, rfl⟩ := takeL_ok h
  obtain ⟨g1, g2, g3, g4⟩ := rightB_at hr j hj
  have hh : hasB (l.set j ⟨l[j]!.most, l[j]!.used + many⟩) j = true := hasB_set (hasB_iff.2 ⟨hr, by omega, by omega⟩) _ _ _ (okC_mk (by omega) (by omega) (by omega))
  unfold giveL
  rw [if_neg (by rw [hh]; rintro (h | h); cases h; omega), Int.toNat_natCast, get_set _ _ _ hj]
  simp only
  rw [if_neg (by omega), List.set_set, show l[j]!.used + many - many = l[j]!.used by omega, set_self' l j hj]

theorem take_two {l p r : List Cls} {a b x y : Int} (hne : a ≠ b) (h : takeL l a x = (p, 0)) (k : takeL p b y = (r, 0)) : ∃ q, takeL l b y = (q, 0) ∧ takeL q a x = (r, 0) := by
  obtain ⟨j, rfl, hj, hr, h0, h1, rfl⟩ := takeL_ok h
  obtain ⟨i, rfl, hi, hr2, k0, k1, rfl⟩ := takeL_ok k
  obtain ⟨g1, g2, g3, g4⟩ := rightB_at hr j hj
  have hi' : i < l.length := by simpa using hi
  obtain ⟨f1, f2, f3, f4⟩ := rightB_at hr i hi'
  have hji : ¬ j = i := fun e => hne (by rw [e])
  rw [get_set_ne l j i _ hi' hji] at k1 ⊢
  refine ⟨_, takeL_mk hi' hr k0 k1, ?_⟩
  have e := get_set_ne l i j ⟨l[i]!.most, l[i]!.used + y⟩ hj (fun e => hji e.symm)
  rw [takeL_mk (by simpa using hj) (rightB_set hr _ _ _ (okC_mk (by omega) (by omega) (by omega))) h0 (by rw [e]; exact h1), e, List.set_comm _ _ hji]

theorem moveL_ok {l t : List Cls} {a b many : Int} (h : moveL l a b many = (t, 0)) : ∃ j i : Nat, a = j ∧ b = i ∧ j < l.length ∧ i < l.length ∧ rightB l = true ∧ 0 ≤ many ∧ many ≤ l[j]!.most - l[j]!.used ∧ (¬ j = i → l[i]!.most + many ≤ 1000) ∧
    t = mv1 (mv1 l j many) i (-many) := by
  unfold moveL at h
  split at h
  · simp at h
  · rename_i h1
    split at h
    · simp at h
    · rename_i h2
      have hh : hasB l a = true := by
        cases hb : hasB l a with
        | true => rfl
        | false => exact absurd (.inl hb) h1
      have hk : hasB l b = true := by
        cases hb : hasB l b with
        | true => rfl
        | false => exact absurd (.inr (.inl hb)) h1
      obtain ⟨hr, h3, h4⟩ := hasB_iff.1 hh
      obtain ⟨_, h5, h6⟩ := hasB_iff.1 hk
      obtain ⟨j, rfl⟩ := Int.eq_ofNat_of_zero_le h3
      obtain ⟨i, rfl⟩ := Int.eq_ofNat_of_zero_le h5
      have hri : roomI l j = l[j]!.most - l[j]!.used := by simp [roomI, hh]
      rw [hri, Int.toNat_natCast] at h2
      simp only [Prod.mk.injEq, and_true] at h
      refine ⟨j, i, rfl, rfl, by omega, by omega, hr, ?_, ?_, ?_, h.symm⟩
      · have := fun x => h1 (.inr (.inr x)); omega
      · have := fun x => h2 (.inl x); omega
      · intro hne
        have := fun x => h2 (.inr ⟨by omega, x⟩); omega
theorem moveL_mk {l : List Cls} {j i : Nat} {many : Int} (hj : j < l.length) (hi : i < l.length) (hr : rightB l = true) (h0 : 0 ≤ many) (h1 : many ≤ l[j]!.most - l[j]!.used) (h2 : ¬ j = i → l[i]!.most + many ≤ 1000) :
    moveL l j i many = (mv1 (mv1 l j many) i (-many), 0) := by
  have hh : hasB l j = true := hasB_iff.2 ⟨hr, by omega, by omega⟩
  have hk : hasB l i = true := hasB_iff.2 ⟨hr, by omega, by omega⟩
  have hri : roomI l j = l[j]!.most - l[j]!.used := by simp [roomI, hh]
  unfold moveL
  rw [if_neg (by rw [hh, hk]; rintro (h | h | h); cases h; cases h; omega), hri, Int.toNat_natCast, if_neg (by
    rintro (h | ⟨h, h'⟩)
    · omega
    · have := h2 (fun e => h (by rw [e])); omega)]
theorem mvd (l : List Cls) (j i : Nat) (hi : i < l.length) (hne : ¬ j = i) (many : Int) : mv1 (mv1 l j many) i (-many) = (l.set j ⟨l[j]!.most - many, l[j]!.used⟩).set i ⟨l[i]!.most + many, l[i]!.used⟩ := by
  simp only [mv1, Int.toNat_natCast]
  rw [get_set_ne l j i _ hi hne, show l[i]!.most - -many = l[i]!.most + many by omega]
theorem mvs (l : List Cls) (j : Nat) (hj : j < l.length) (many : Int) : mv1 (mv1 l j many) j (-many) = l := by
  simp only [mv1, Int.toNat_natCast]
  rw [get_set _ _ _ hj]
  simp only [List.set_set]
  rw [show l[j]!.most - many - -many = l[j]!.most by omega, set_self' l j hj]

theorem move_back {l t : List Cls} {a b many : Int} (h : moveL l a b many = (t, 0)) : moveL t b a many = (l, 0) := by
  obtain ⟨j, i, rfl, rfl, hj, hi, hr, h0, h1, h2, rfl⟩ := moveL_ok h
  obtain ⟨g1, g2, g3, g4⟩ := rightB_at hr j hj
  obtain ⟨f1, f2, f3, f4⟩ := rightB_at hr i hi
  by_cases e : j = i
  · subst e
    rw [mvs l j hj, moveL_mk hj hj hr h0 h1 h2, mvs l j hj]
  · have h3 := h2 e
    have e' : ¬ i = j := fun x => e x.symm
    rw [mvd l j i hi e]
    have hr2 : rightB ((l.set j ⟨l[j]!.most - many, l[j]!.used⟩).set i ⟨l[i]!.most + many, l[i]!.used⟩) = true :=
      rightB_set (rightB_set hr _ _ _ (okC_mk (by omega) (by omega) (by omega))) _ _ _ (okC_mk (by omega) (by omega) (by omega))
    have ei : ((l.set j ⟨l[j]!.most - many, l[j]!.used⟩).set i ⟨l[i]!.most + many, l[i]!.used⟩)[i]! = ⟨l[i]!.most + many, l[i]!.used⟩ := get_set _ _ _ (by simpa using hi)
    have ej : ((l.set j ⟨l[j]!.most - many, l[j]!.used⟩).set i ⟨l[i]!.most + many, l[i]!.used⟩)[j]! = ⟨l[j]!.most - many, l[j]!.used⟩ := by
      rw [get_set_ne _ _ _ _ (by simpa using hj) e', get_set _ _ _ hj]
    rw [moveL_mk (by simpa using hi) (by simpa using hj) hr2 h0 (by rw [ei]; simp only; omega) (by rw [ej]; intro; simp only; omega)]
    rw [mvd _ i j (by simpa using hj) e', ei, ej]
    simp only
    rw [show l[i]!.most + many - many = l[i]!.most by omega, show l[j]!.most - many + many = l[j]!.most by omega]
    rw [List.set_set, List.set_comm _ _ e', List.set_set, List.set_comm _ _ e, set_self' l i hi, set_self' l j hj]
end Go.Proofs.Ytcjlpgpmoleidaa
