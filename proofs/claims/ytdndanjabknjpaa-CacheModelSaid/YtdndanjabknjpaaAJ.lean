/- What CacheModel's walk uses of its plain law. -/
import Derived.Test.YtdndanjabknjpaaAG
namespace Go.Proofs.Ytdndanjabknjpaa
open Go.RowKit Go.Lib
set_option linter.unusedVariables false

/-- How many addresses of a set are there, below so many. -/
def cnt (n s : Nat) (th : Nat → Bool) (k : Nat) : Nat := ((List.range (min k 256)).filter fun j => decide (j % n = s) && th j).length
theorem cnt_le (n s : Nat) (th : Nat → Bool) (k : Nat) : cnt n s th k ≤ 256 := by
  unfold cnt
  refine Nat.le_trans (List.length_filter_le _ _) ?_
  rw [List.length_range]
  omega
theorem cnt_start {n t : Nat} {th : Nat → Bool} : cnt n (t % n) th (t % n) = 0 := by
  unfold cnt
  rw [List.length_eq_zero_iff, List.filter_eq_nil_iff]
  intro j hj h
  rw [List.mem_range] at hj
  rw [Bool.and_eq_true, decide_eq_true_eq] at h
  have h1 : j < t % n := by omega
  have h3 : t % n < n ∨ n = 0 := by
    rcases Nat.eq_zero_or_pos n with h | h
    · exact .inr h
    · exact .inl (Nat.mod_lt _ h)
  rcases h3 with h3 | rfl
  · rw [Nat.mod_eq_of_lt (by omega)] at h
    omega
  · rw [Nat.mod_zero, Nat.mod_zero] at h
    rw [Nat.mod_zero] at h1
    omega
theorem cnt_end {n s k : Nat} {th : Nat → Bool} (h : 256 ≤ k) : cnt n s th k = cnt n s th 256 := by
  unfold cnt
  rw [Nat.min_eq_right h, Nat.min_self]
theorem cnt_step {n s k : Nat} {th : Nat → Bool} (hn : 1 ≤ n) (hk : k < 256) (hs : k % n = s) : cnt n s th (k + n) = cnt n s th k + (if th k then 1 else 0) := by
  unfold cnt
  obtain ⟨r, hr⟩ : ∃ r, min (k + n) 256 = k + (1 + r) := ⟨min (k + n) 256 - k - 1, by omega⟩
  have hrn : r < n := by omega
  rw [hr, Nat.min_eq_left (by omega), List.range_add, List.filter_append, List.length_append]
  congr 1
  rw [Nat.add_comm 1 r, List.range_succ_eq_map, List.map_cons, List.filter_cons, Nat.add_zero]
  have hrest : ((List.map (fun x => k + x) (List.map Nat.succ (List.range r))).filter fun j => decide (j % n = s) && th j) = [] := by
    rw [List.filter_eq_nil_iff]
    intro j hj h
    rw [List.map_map, List.mem_map] at hj
    obtain ⟨q, hq, rfl⟩ := hj
    rw [List.mem_range] at hq
    rw [Bool.and_eq_true, decide_eq_true_eq] at h
    have h1 := h.1
    rw [← hs] at h1
    have h2 : (k + (q + 1)) % n = k % n := h1
    have h3 := Nat.div_add_mod k n
    have h4 := Nat.div_add_mod (k + (q + 1)) n
    rw [h2] at h4
    have h5 : n * ((k + (q + 1)) / n) = n * (k / n) + (q + 1) := by omega
    have h6 : n * ((k + (q + 1)) / n - k / n) = q + 1 := by rw [Nat.mul_sub]; omega
    rcases Nat.eq_zero_or_pos ((k + (q + 1)) / n - k / n) with e | e
    · rw [e, Nat.mul_zero] at h6
      omega
    · have := Nat.le_mul_of_pos_right n e
      omega
  rw [hrest, hs, decide_eq_true rfl, Bool.true_and]
  cases th k <;> rfl
theorem cnt_step_t {n s k : Nat} {th : Nat → Bool} (hn : 1 ≤ n) (hk : k < 256) (hs : k % n = s) (h : th k = true) : cnt n s th (k + n) = cnt n s th k + 1 := by
  rw [cnt_step hn hk hs, h]; rfl
theorem cnt_step_f {n s k : Nat} {th : Nat → Bool} (hn : 1 ≤ n) (hk : k < 256) (hs : k % n = s) (h : th k = false) : cnt n s th (k + n) = cnt n s th k := by
  rw [cnt_step hn hk hs, h]; rfl
section
variable {n m i t : Nat} {x : Ca} {th : Nat → Bool} {va la : Nat → Int}
theorem tmod_set (h : MInv n m i x th va la) {a s : Nat} : (a : Int).tmod x.sets = (s : Int) ↔ a % n = s := by
  rw [Int.tmod_eq_emod_of_nonneg (by omega), h.sets]
  omega
theorem MInv.cap (h : MInv n m i x th va la) (hm : m ≤ 8) : ∀ s, s < n → x.lines[s]!.length ≤ 1000000 := fun s hs => by
  have := ((rightC_iff.1 h.right).sets s (by rw [h.num]; exact hs)).1
  have := h.ways
  omega
theorem MInv.put2 (h : MInv n m i x th va la) (hn : 1 ≤ n) (ht : t < 256) (hi : i ≤ 1000) {st v : Int} (hst : 1 ≤ st ∧ st ≤ 4) :
    ∃ (y : Ca) (z : Ln), putC x t st v = (y, z, 0) ∧ y.lines.length = n ∧
    ((z = zeroL ∧ (th t = true ∨ cnt n (t % n) th 256 ≠ m) ∧ MInv n m (i + 1) y (upd th t true) (upd va t v) (upd la t ((i : Int) + 1))) ∨
     (th t = false ∧ cnt n (t % n) th 256 = m ∧ z ≠ zeroL ∧ ∃ k : Nat, k < 256 ∧ z.addr = (k : Int) ∧ k % n = t % n ∧ th k = true ∧ va k = z.val_ ∧
       (∀ o : Nat, o < 256 → o % n = t % n → th o = true → la k ≤ la o) ∧ MInv n m (i + 1) y (upd (upd th k false) t true) (upd va t v) (upd la t ((i : Int) + 1)))) := by
  obtain ⟨h2, s, hts, hs, h3⟩ := h.put (v := v) ht hi hst
  have hs' := (tmod_set h).1 hts
  have hc : x.lines[s]!.length = cnt n (t % n) th 256 := by
    rw [h.count (by rw [← hs']; exact Nat.mod_lt _ hn), hs']
    rfl
  rw [hc] at h3
  refine ⟨(putC x t st v).1, (putC x t st v).2.1, by rw [← h2], ?_, ?_⟩
  · rcases h3 with h3 | h3 | ⟨_, _, k, _, _, _, _, _, _, _, h3⟩
    · exact h3.2.2.num
    · exact h3.2.2.2.num
    · exact h3.num
  · rcases h3 with h3 | h3 | ⟨h4, h5, k, h6, h7, h8, h9, h10, h11, h12, h13⟩
    · exact .inl ⟨h3.2.1, .inl h3.1, h3.2.2⟩
    · exact .inl ⟨h3.2.2.1, .inr h3.2.1, h3.2.2.2⟩
    · right
      refine ⟨h4, h5, h8, k, h6, h7, ?_, h10, h11, fun o ho hos => h12 o ho ((tmod_set h).2 (hos.trans hs')), h13⟩
      rw [hs']
      exact (tmod_set h).1 h9
theorem MInv.use2 (h : MInv n m i x th va la) (ht : t < 256) (hi : i ≤ 1000) :
    ∃ y : Ca, y.lines.length = n ∧ ((th t = true ∧ useC x t = (y, 0) ∧ MInv n m (i + 1) y th va (upd la t ((i : Int) + 1))) ∨ (th t = false ∧ useC x t = (y, 7) ∧ MInv n m (i + 1) y th va la)) := by
  rcases h.use ht hi with ⟨a, b, c⟩ | ⟨a, b, c⟩
  · exact ⟨_, c.num, .inl ⟨a, by rw [← b], c⟩⟩
  · exact ⟨_, c.num, .inr ⟨a, by rw [← b], c⟩⟩
theorem MInv.drop2 (h : MInv n m i x th va la) (ht : t < 256) (hi : i ≤ 1000) :
    ∃ y : Ca, y.lines.length = n ∧ ((th t = true ∧ dropC x t = (y, 0) ∧ MInv n m (i + 1) y (upd th t false) va la) ∨ (th t = false ∧ dropC x t = (y, 7) ∧ MInv n m (i + 1) y (upd th t false) va la)) := by
  rcases h.drop ht hi with ⟨a, b, c⟩ | ⟨a, b, c⟩
  · exact ⟨_, c.num, .inl ⟨a, by rw [← b], c⟩⟩
  · exact ⟨_, c.num, .inr ⟨a, by rw [← b], c⟩⟩
theorem count_succ {k : Nat} : ((List.range (k + 1)).filter th).length = ((List.range k).filter th).length + (if th k then 1 else 0) := by
  rw [List.range_succ, List.filter_append, List.length_append, List.filter_cons]
  cases th k <;> rfl
end
end Go.Proofs.Ytdndanjabknjpaa
