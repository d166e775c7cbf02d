/- The plain law of DueFirst: a list of what is due, beside an array of times. -/
import Derived.Test.YtimhdkgllgdamaaN
namespace Go.Proofs.Ytimhdkgllgdamaa
open Go.RowKit Go.Lib D
set_option linter.unusedVariables false

/-- What an array of times says is due. -/
def upto (a : List Int) (n : Nat) : List Du := ((List.range n).filter (fun k : Nat => decide ((0 : Int) ≤ a[k]!))).map (fun k : Nat => ⟨a[k]!, (k : Int)⟩)
def items (a : List Int) : List Du := upto a 64
theorem mem_upto {a : List Int} {n : Nat} {x : Du} : x ∈ upto a n ↔ ∃ k, k < n ∧ 0 ≤ a[k]! ∧ x = ⟨a[k]!, (k : Int)⟩ := by
  unfold upto
  simp only [List.mem_map, List.mem_filter, List.mem_range, decide_eq_true_eq]
  constructor
  · rintro ⟨k, ⟨h1, h2⟩, rfl⟩; exact ⟨k, h1, h2, rfl⟩
  · rintro ⟨k, h1, h2, rfl⟩; exact ⟨k, ⟨h1, h2⟩, rfl⟩
theorem upto_succ (a : List Int) (n : Nat) : upto a (n + 1) = upto a n ++ (if 0 ≤ a[n]! then [⟨a[n]!, (n : Int)⟩] else []) := by
  unfold upto
  rw [List.range_succ, List.filter_append, List.map_append, List.filter_cons]
  by_cases h : 0 ≤ a[n]!
  · rw [if_pos (decide_eq_true h), if_pos h]; rfl
  · rw [if_neg (by rw [decide_eq_true_iff]; exact h), if_neg h]; rfl
theorem upto_zero (a : List Int) : upto a 0 = [] := rfl
theorem upto_le (a : List Int) (n : Nat) : (upto a n).length ≤ n := by
  unfold upto
  rw [List.length_map]
  exact Nat.le_trans (List.length_filter_le _ _) (by simp)
theorem getSetI (l : List Int) (i : Nat) (x : Int) (k : Nat) (hk : k < l.length) : (l.set i x)[k]! = if i = k then x else l[k]! := by
  rw [getElem!_pos (l.set i x) k (by simpa using hk), List.getElem_set, getElem!_pos l k hk]
theorem upto_far (a : List Int) (k : Nat) (t : Int) : ∀ n, n ≤ k → n ≤ a.length → upto (a.set k t) n = upto a n
  | 0, _, _ => rfl
  | n + 1, h, hl => by
    rw [upto_succ, upto_succ, upto_far a k t n (by omega) (by omega), getSetI a k t n (by omega), if_neg (show ¬ k = n by omega)]
theorem upto_none (a : List Int) (k : Nat) : ∀ n, n ≤ k → (upto a n).filter (fun x => !decide (x.which = (k : Int))) = upto a n := by
  intro n hn
  rw [List.filter_eq_self]
  intro x hx
  obtain ⟨j, hj, _, rfl⟩ := mem_upto.1 hx
  simp; omega
/-- A time is set. -/
theorem upto_set (a : List Int) (k : Nat) (t : Int) (ht : 0 ≤ t) : ∀ n, k < n → n ≤ a.length → (upto (a.set k t) n).Perm (⟨t, (k : Int)⟩ :: (upto a n).filter (fun x => !decide (x.which = (k : Int))))
  | 0, h, _ => absurd h (Nat.not_lt_zero _)
  | n + 1, h, hl => by
    rw [upto_succ, upto_succ, getSetI a k t n (by omega)]
    by_cases e : k = n
    · subst e
      rw [if_pos rfl, if_pos ht, upto_far a k t k (Nat.le_refl _) (by omega), List.filter_append, upto_none a k k (Nat.le_refl _)]
      have : (if 0 ≤ a[k]! then [(⟨a[k]!, (k : Int)⟩ : Du)] else []).filter (fun x => !decide (x.which = (k : Int))) = [] := by
        by_cases h0 : 0 ≤ a[k]!
        · rw [if_pos h0]; simp
        · rw [if_neg h0]; rfl
      rw [this, List.append_nil]
      exact List.perm_append_singleton _ _
    · rw [if_neg e, List.filter_append]
      have : (if 0 ≤ a[n]! then [(⟨a[n]!, (n : Int)⟩ : Du)] else []).filter (fun x => !decide (x.which = (k : Int))) = if 0 ≤ a[n]! then [⟨a[n]!, (n : Int)⟩] else [] := by
        by_cases h0 : 0 ≤ a[n]!
        · rw [if_pos h0]
          have : ¬ (n : Int) = (k : Int) := by omega
          simp [this]
        · rw [if_neg h0]; rfl
      rw [this, ← List.cons_append]
      exact (upto_set a k t ht n (by omega) (by omega)).append_right _
/-- One is taken off. -/
theorem upto_off (a : List Int) (k : Nat) : ∀ n, n ≤ a.length → upto (a.set k (-1)) n = (upto a n).filter (fun x => !decide (x.which = (k : Int)))
  | 0, _ => rfl
  | n + 1, hl => by
    rw [upto_succ, upto_succ, upto_off a k n (by omega), getSetI a k (-1) n (by omega), List.filter_append]
    congr 1
    by_cases e : k = n
    · subst e
      rw [if_pos rfl, if_neg (by omega)]
      by_cases h0 : 0 ≤ a[k]!
      · rw [if_pos h0]; simp
      · rw [if_neg h0]; rfl
    · rw [if_neg e]
      by_cases h0 : 0 ≤ a[n]!
      · rw [if_pos h0]
        have : ¬ (n : Int) = (k : Int) := by omega
        simp [this]
      · rw [if_neg h0]; rfl
theorem upto_nodup (a : List Int) : ∀ n, ((upto a n).map Du.which).Nodup
  | 0 => List.nodup_nil
  | n + 1 => by
    rw [upto_succ, List.map_append, List.nodup_append]
    refine ⟨upto_nodup a n, ?_, ?_⟩
    · by_cases h0 : 0 ≤ a[n]!
      · rw [if_pos h0]; simp
      · rw [if_neg h0]; simp
    · intro x hx y hy
      obtain ⟨z, hz, rfl⟩ := List.mem_map.1 hx
      obtain ⟨j, hj, _, rfl⟩ := mem_upto.1 hz
      by_cases h0 : 0 ≤ a[n]!
      · rw [if_pos h0] at hy
        simp only [List.map_cons, List.map_nil, List.mem_singleton] at hy
        subst hy
        simp only
        omega
      · rw [if_neg h0] at hy
        cases hy
theorem sorted_step' {s : List Du} (h : s.Pairwise LeD) {i : Nat} (hi : i < s.length) (h0 : 0 < i) : LeD s[i - 1]! s[i]! := by
  rw [getElem!_pos s (i - 1) (by omega), getElem!_pos s i hi]
  exact List.pairwise_iff_getElem.1 h (i - 1) i (by omega) hi (by omega)
/-- A list that is sorted, unlike, within bounds, and short, is right. -/
theorem right_of {l : List Du} (h1 : l.Pairwise LeD) (h2 : (l.map Du.which).Nodup) (h3 : ∀ x ∈ l, mayD x = true) (h4 : l.length ≤ 64) : rightD l = true := by
  rw [right_iff]
  refine ⟨h4, fun j hj => ⟨h3 _ (getMem hj), fun i hij e => ?_, fun h0 => ?_⟩⟩
  · rw [getElem!_pos l i (by omega), getElem!_pos l j hj] at e
    have hp : (l.map Du.which).Pairwise (· ≠ ·) := h2
    rw [List.pairwise_iff_getElem] at hp
    have := hp i j (by rw [List.length_map]; omega) (by rw [List.length_map]; exact hj) hij
    rw [List.getElem_map, List.getElem_map] at this
    exact this e
  · have hle := sorted_step' h1 hj h0
    rw [LeD.iff] at hle
    have hne : l[j - 1]!.which ≠ l[j]!.which := by
      intro e
      rw [getElem!_pos l (j - 1) (by omega), getElem!_pos l j hj] at e
      have hp : (l.map Du.which).Pairwise (· ≠ ·) := h2
      rw [List.pairwise_iff_getElem] at hp
      have := hp (j - 1) j (by rw [List.length_map]; omega) (by rw [List.length_map]; exact hj) (by omega)
      rw [List.getElem_map, List.getElem_map] at this
      exact this e
    simp only [lessD, decide_eq_true_eq]
    omega
/-- What stands between two things that come. -/
structure Inv (l : List Du) (a : List Int) (now : Int) : Prop where
  right : rightD l = true
  perm : (items a).Perm l
  len : a.length = 64
  late : ∀ x ∈ l, now < x.when_
theorem inv_start : Inv [] (List.replicate 64 (-1)) 0 := by
  refine ⟨by decide, ?_, by simp, fun x hx => by cases hx⟩
  have : items (List.replicate 64 (-1)) = [] := by
    rw [List.eq_nil_iff_forall_not_mem]
    intro x hx
    obtain ⟨k, hk, h0, _⟩ := mem_upto.1 hx
    rw [getElem!_pos _ k (by simpa using hk), List.getElem_replicate] at h0
    omega
  rw [this]
section
variable {l : List Du} {a : List Int} {k : Nat} {t : Int}
theorem inv_rest (hr : rightD l = true) (hp : (items a).Perm l) (hl : a.length = 64) (hk : k < 64) (ht : 0 ≤ t) : (items (a.set k t)).Perm (putD (restD l k) ⟨t, (k : Int)⟩) ∧ (restD l k).length < 64 := by
  have h1 := upto_set a k t ht 64 hk (by omega)
  have h2 : ((items a).filter (fun x => !decide (x.which = (k : Int)))).Perm (restD l k) := hp.filter _
  have h3 : (items (a.set k t)).Perm (⟨t, (k : Int)⟩ :: restD l k) := h1.trans (h2.cons _)
  refine ⟨h3.trans (putD_perm _ _).symm, ?_⟩
  have h4 := h3.length_eq
  have h5 := upto_le (a.set k t) 64
  unfold items at h4
  simp only [List.length_cons] at h4
  omega
theorem inv_add (hr : rightD l = true) (hp : (items a).Perm l) (hl : a.length = 64) (hk : k < 64) (ht : 0 ≤ t) (ht2 : t ≤ 1099511627776) : addD l ⟨t, (k : Int)⟩ = (putD (restD l k) ⟨t, (k : Int)⟩, 0) ∧ rightD (putD (restD l k) ⟨t, (k : Int)⟩) = true := by
  obtain ⟨h1, h2⟩ := inv_rest hr hp hl hk ht
  have hm : mayD ⟨t, (k : Int)⟩ = true := by
    simp only [mayD, decide_eq_true_eq]; omega
  constructor
  · unfold addD
    rw [if_pos ⟨hr, hm⟩, if_neg (by show ¬ 64 ≤ (restD l k).length; omega)]
  · refine right_of (putD_sorted _ ((right_sorted hr).sublist List.filter_sublist)) ?_ ?_ ?_
    · exact (h1.map Du.which).nodup_iff.1 (upto_nodup _ 64)
    · intro x hx
      rcases List.mem_cons.1 ((putD_perm _ _).mem_iff.1 hx) with rfl | hx
      · exact hm
      · obtain ⟨i, hi, rfl⟩ := memGet (List.mem_filter.1 hx).1
        exact right_may hr hi
    · rw [putD_length]; omega
end
/-- What comes, and what is left. -/
def dueF (m : List Du) (now : Int) : List Du := m.filter (fun x => decide (x.when_ ≤ now))
def leftF (m : List Du) (now : Int) : List Du := m.filter (fun x => decide (now < x.when_))
theorem come_eq {m : List Du} {now : Int} (h : rightD m = true) : comeD m now = (leftF m now, (dueF m now).map Du.which, 0) := by
  unfold comeD; rw [if_pos h]; rfl
theorem split_perm (m : List Du) (now : Int) : m.Perm (dueF m now ++ leftF m now) := by
  have := List.filter_append_perm (fun x : Du => decide (x.when_ ≤ now)) m
  have e : m.filter (fun x => !decide (x.when_ ≤ now)) = leftF m now := by
    unfold leftF
    congr 1
    funext x
    rw [Bool.eq_iff_iff]; simp
  rw [e] at this
  exact this.symm
theorem left_right {m : List Du} {now : Int} (h : rightD m = true) : rightD (leftF m now) = true := by
  have hs : (leftF m now).Sublist m := List.filter_sublist
  refine right_of ((right_sorted h).sublist hs) ?_ (fun x hx => ?_) (Nat.le_trans hs.length_le (right_len h))
  · have hn : (m.map Du.which).Nodup := by
      show (m.map Du.which).Pairwise (· ≠ ·)
      rw [List.pairwise_iff_getElem]
      intro i j hi hj hij e
      rw [List.length_map] at hi hj
      rw [List.getElem_map, List.getElem_map] at e
      have := right_unlike h hi hj (by rw [getElem!_pos m i hi, getElem!_pos m j hj]; exact e)
      omega
    exact (hs.map Du.which).nodup hn
  · obtain ⟨i, hi, rfl⟩ := memGet (hs.subset hx)
    exact right_may h hi
/-- Of what has come, all but the first j is there yet. -/
theorem off_step {a : List Int} {F R : List Du} {j : Nat} (hl : a.length = 64) (hp : (items a).Perm (F.drop j ++ R)) (hj : j < F.length) : ∃ k : Nat, k < 64 ∧ F[j]!.which = (k : Int) ∧ a[k]! = F[j]!.when_ ∧ 0 ≤ a[k]! ∧ (items (a.set k (-1))).Perm (F.drop (j + 1) ++ R) := by
  have hd : F.drop j = F[j]! :: F.drop (j + 1) := by rw [getElem!_pos F j hj, List.drop_eq_getElem_cons hj]
  rw [hd, List.cons_append] at hp
  have hm : F[j]! ∈ items a := hp.mem_iff.2 (List.mem_cons_self)
  obtain ⟨k, hk, h0, e⟩ := mem_upto.1 hm
  refine ⟨k, hk, by rw [e], by rw [e], h0, ?_⟩
  have h1 : items (a.set k (-1)) = (items a).filter (fun x => !decide (x.which = (k : Int))) := upto_off a k 64 (by omega)
  rw [h1]
  refine (hp.filter _).trans ?_
  rw [List.filter_cons, e]
  simp only [decide_true, Bool.not_true, Bool.false_eq_true, if_false]
  have hn : ((items a).map Du.which).Nodup := upto_nodup a 64
  have hn2 := (hp.map Du.which).nodup_iff.1 hn
  rw [List.map_cons, List.nodup_cons, e] at hn2
  have h2 : (F.drop (j + 1) ++ R).filter (fun x => !decide (x.which = (k : Int))) = F.drop (j + 1) ++ R := by
    rw [List.filter_eq_self]
    intro x hx
    simp only [Bool.not_eq_true', decide_eq_false_iff_not]
    intro e2
    exact hn2.1 (List.mem_map.2 ⟨x, hx, e2⟩)
  rw [h2]
end Go.Proofs.Ytimhdkgllgdamaa
