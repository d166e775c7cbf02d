/- The plain law of a heap of what is due: down, up, init, pop, push, remove; sorted lists. -/
import Derived.Test.YtimhdkgllgdamaaF
namespace Go.Proofs.Ytimhdkgllgdamaa
open Go.RowKit Go.Lib D

/-- One is not behind another one. -/
def LeD (a b : Du) : Prop := lessD b a = false
theorem LeD.iff {a b : Du} : LeD a b ↔ a.when_ < b.when_ ∨ (a.when_ = b.when_ ∧ a.which ≤ b.which) := by
  simp only [LeD, lessD, decide_eq_false_iff_not]; omega
theorem LeD.refl (a : Du) : LeD a a := LeD.iff.2 (by omega)
theorem LeD.trans {a b c : Du} (h : LeD a b) (h2 : LeD b c) : LeD a c := by rw [LeD.iff] at *; omega
theorem LeD.anti {a b : Du} (h : LeD a b) (h2 : LeD b a) : a = b := by
  rw [LeD.iff] at h h2
  cases a; cases b
  simp only [Du.mk.injEq]
  simp only at h h2
  omega
theorem LeD.total (a b : Du) : LeD a b ∨ LeD b a := by rw [LeD.iff, LeD.iff]; omega
theorem LeD.of_less {a b : Du} (h : lessD a b = true) : LeD a b := by
  simp only [lessD, decide_eq_true_eq] at h
  rw [LeD.iff]; omega
theorem getSet (l : List Du) (i : Nat) (x : Du) (k : Nat) : (l.set i x)[k]! = if i = k ∧ k < l.length then x else l[k]! := by
  by_cases hk : k < l.length
  · rw [getElem!_pos (l.set i x) k (by simpa using hk), List.getElem_set, getElem!_pos l k hk]
    by_cases h : i = k
    · simp [h, hk]
    · simp [h]
  · rw [getElem!_neg (l.set i x) k (by simpa using hk), getElem!_neg l k hk, if_neg (fun h => hk h.2)]
theorem swapL_at {l : List Du} {i j : Nat} (hi : i < l.length) (hj : j < l.length) (k : Nat) : (swapL l i j)[k]! = if k = j then l[i]! else if k = i then l[j]! else l[k]! := by
  unfold swapL
  rw [getSet, getSet, List.length_set]
  by_cases h : k = j
  · subst h; simp [hj]
  · by_cases h2 : k = i
    · subst h2; simp [h, Ne.symm h, hi]
    · simp [h, h2, Ne.symm h, Ne.symm h2]
theorem swapL_perm {l : List Du} {i j : Nat} (hi : i < l.length) (hj : j < l.length) : (swapL l i j).Perm l := by
  unfold swapL
  rw [getElem!_pos l i hi, getElem!_pos l j hj]
  exact List.set_set_perm hi hj

/-- Of a number's two: its first or its second. -/
def Kid (p c : Nat) : Prop := c = 2 * p + 1 ∨ c = 2 * p + 2
def Heap (t n : Nat) (l : List Du) : Prop := ∀ p c, t ≤ p → Kid p c → c < n → LeD l[p]! l[c]!
structure HeapEx (t n k : Nat) (l : List Du) : Prop where
  edge : ∀ p c, t ≤ p → Kid p c → c < n → p ≠ k → c ≠ k → LeD l[p]! l[c]!
  grand : ∀ p c, t ≤ p → Kid p k → Kid k c → c < n → LeD l[p]! l[c]!
theorem pick_fact (l : List Du) (i n : Nat) (h : ¬ n ≤ 2 * i + 1) : Kid i (pickL l i n) ∧ pickL l i n < n ∧ ∀ c, Kid i c → c < n → LeD l[pickL l i n]! l[c]! := by
  unfold pickL
  by_cases h2 : 2 * i + 2 < n ∧ lessD l[2 * i + 2]! l[2 * i + 1]! = true
  · rw [if_pos h2]
    refine ⟨.inr rfl, h2.1, fun c hc hcn => ?_⟩
    rcases hc with rfl | rfl
    · exact LeD.of_less h2.2
    · exact LeD.refl _
  · rw [if_neg h2]
    refine ⟨.inl rfl, by omega, fun c hc hcn => ?_⟩
    rcases hc with rfl | rfl
    · exact LeD.refl _
    · unfold LeD
      cases hl : lessD l[2 * i + 2]! l[2 * i + 1]! with
      | false => rfl
      | true => exact absurd ⟨hcn, hl⟩ h2
theorem downF_len : ∀ (f : Nat) (l : List Du) (i n : Nat), (downF f l i n).1.length = l.length
  | 0, _, _, _ => rfl
  | f + 1, l, i, n => by
    rw [downF]
    split
    · rfl
    · split
      · rw [downF_len f, swapL_len]
      · rfl
theorem downF_far : ∀ (f : Nat) (l : List Du) (i n : Nat), n ≤ l.length → ∀ k, n ≤ k → (downF f l i n).1[k]! = l[k]!
  | 0, _, _, _, _, _, _ => rfl
  | f + 1, l, i, n, hn, k, hk => by
    rw [downF]
    split
    · rfl
    · rename_i h
      obtain ⟨hkid, hlt, _⟩ := pick_fact l i n h
      have hki : i < pickL l i n := by rcases hkid with e | e <;> omega
      split
      · rw [downF_far f _ _ _ (by rw [swapL_len]; exact hn) k hk, swapL_at (by omega) (by omega), if_neg (by omega), if_neg (by omega)]
      · rfl
theorem downF_perm : ∀ (f : Nat) (l : List Du) (i n : Nat), n ≤ l.length → (downF f l i n).1.Perm l
  | 0, l, _, _, _ => List.Perm.refl _
  | f + 1, l, i, n, hn => by
    rw [downF]
    split
    · exact List.Perm.refl _
    · rename_i h
      obtain ⟨hkid, hlt, _⟩ := pick_fact l i n h
      have hki : i < pickL l i n := by rcases hkid with e | e <;> omega
      split
      · exact (downF_perm f _ _ _ (by rw [swapL_len]; exact hn)).trans (swapL_perm (by omega) (by omega))
      · exact List.Perm.refl _
theorem downF_le : ∀ (f : Nat) (l : List Du) (i n : Nat), i ≤ (downF f l i n).2
  | 0, _, _, _ => Nat.le_refl _
  | f + 1, l, i, n => by
    rw [downF]
    split
    · exact Nat.le_refl _
    · rename_i h
      obtain ⟨hkid, _, _⟩ := pick_fact l i n h
      have hki : i < pickL l i n := by rcases hkid with e | e <;> omega
      split
      · exact Nat.le_trans (Nat.le_of_lt hki) (downF_le f _ _ _)
      · exact Nat.le_refl _
theorem Kid.par {p p' c : Nat} (h : Kid p c) (h' : Kid p' c) : p = p' := by unfold Kid at *; omega
/-- Down: nothing was moved, and what is below is right; or all is right. -/
theorem down_law (t n : Nat) : ∀ (f : Nat) (l : List Du) (i : Nat), n ≤ l.length → t ≤ i → n ≤ i + f → HeapEx t n i l →
    ((downF f l i n) = (l, i) ∧ ∀ c, Kid i c → c < n → LeD l[i]! l[c]!) ∨ (i < (downF f l i n).2 ∧ Heap t n (downF f l i n).1)
  | 0, l, i, _, _, hf, _ => .inl ⟨rfl, fun c hc hcn => by unfold Kid at hc; omega⟩
  | f + 1, l, i, hn, ht, hf, H => by
    rw [downF]
    split
    · rename_i h
      exact .inl ⟨rfl, fun c hc hcn => by unfold Kid at hc; omega⟩
    · rename_i h
      obtain ⟨hkid, hlt, hmin⟩ := pick_fact l i n h
      generalize pickL l i n = j at *
      have hij : i < j := by rcases hkid with e | e <;> omega
      split
      · rename_i hl
        have hyx := LeD.of_less hl
        have at_ := swapL_at (l := l) (i := i) (j := j) (by omega) (by omega)
        have H2 : HeapEx t n j (swapL l i j) := by
          constructor
          · intro p c hp hpc hcn hpj hcj
            rw [at_ p, at_ c, if_neg hpj, if_neg hcj]
            by_cases hpi : p = i
            · subst hpi
              rw [if_pos rfl, if_neg (by unfold Kid at hpc; omega)]
              exact hmin c hpc hcn
            · rw [if_neg hpi]
              by_cases hci : c = i
              · subst hci
                rw [if_pos rfl]
                exact H.grand p j hp hpc hkid hlt
              · rw [if_neg hci]
                exact H.edge p c hp hpc hcn hpi hci
          · intro p c hp hpj hjc hcn
            obtain rfl : i = p := hkid.par hpj
            rw [at_ i, if_neg (by omega), if_pos rfl, at_ c, if_neg (by unfold Kid at hjc; omega), if_neg (by unfold Kid at hjc; omega)]
            exact H.edge j c (by omega) hjc hcn (by omega) (by unfold Kid at hjc; omega)
        rcases down_law t n f (swapL l i j) j (by rw [swapL_len]; exact hn) (by omega) (by omega) H2 with ⟨e, hk⟩ | ⟨h1, h2⟩
        · rw [e]
          refine .inr ⟨hij, fun p c hp hpc hcn => ?_⟩
          by_cases hpj : p = j
          · subst hpj; exact hk c hpc hcn
          · by_cases hcj : c = j
            · subst hcj
              obtain rfl : p = i := hpc.par hkid
              show LeD (swapL l p c)[p]! (swapL l p c)[c]!
              rw [at_ p, at_ c, if_neg (by omega), if_pos rfl, if_pos rfl]
              exact hyx
            · exact H2.edge p c hp hpc hcn hpj hcj
        · exact .inr ⟨by omega, h2⟩
      · rename_i hl
        refine .inl ⟨rfl, fun c hc hcn => ?_⟩
        have : LeD l[i]! l[j]! := by
          unfold LeD
          simpa using hl
        exact this.trans (hmin c hc hcn)
/-- Down, where what is above is right. -/
theorem down_heap {t n f : Nat} {l : List Du} {i : Nat} (hn : n ≤ l.length) (ht : t ≤ i) (hf : n ≤ i + f) (H : HeapEx t n i l) (hup : ∀ p, t ≤ p → Kid p i → LeD l[p]! l[i]!) : Heap t n (downF f l i n).1 := by
  rcases down_law t n f l i hn ht hf H with ⟨e, hk⟩ | ⟨_, h⟩
  · rw [e]
    intro p c hp hpc hcn
    by_cases hpi : p = i
    · subst hpi; exact hk c hpc hcn
    · by_cases hci : c = i
      · subst hci; exact hup p hp hpc
      · exact H.edge p c hp hpc hcn hpi hci
  · exact h
/-- The heap is made. -/
def initF (n : Nat) : Nat → List Du → List Du
  | 0, l => l
  | k + 1, l => initF n k (downF n l k n).1
theorem init_law (n : Nat) : ∀ (k : Nat) (l : List Du), l.length = n → Heap k n l → Heap 0 n (initF n k l) ∧ (initF n k l).Perm l
  | 0, l, _, h => ⟨h, List.Perm.refl _⟩
  | k + 1, l, hl, h => by
    have h1 : Heap k n (downF n l k n).1 := down_heap (by omega) (Nat.le_refl _) (by omega)
      ⟨fun p c hp hpc hcn hpk _ => h p c (by omega) hpc hcn, fun p c hp hpk _ _ => by unfold Kid at hpk; omega⟩ (fun p hp hpk => by unfold Kid at hpk; omega)
    obtain ⟨h2, h3⟩ := init_law n k _ (by rw [downF_len]; exact hl) h1
    exact ⟨h2, h3.trans (downF_perm _ _ _ _ (by omega))⟩
theorem init_heap {l : List Du} {n : Nat} (hl : l.length = n) : Heap 0 n (initF n (n / 2) l) ∧ (initF n (n / 2) l).Perm l :=
  init_law n _ l hl fun p c hp hpc hcn => by unfold Kid at hpc; omega

def upF : Nat → List Du → Nat → List Du
  | 0, l, _ => l
  | f + 1, l, j => if j = 0 then l else if lessD l[j]! l[(j - 1) / 2]! = true then upF f (swapL l ((j - 1) / 2) j) ((j - 1) / 2) else l
theorem upF_len : ∀ (f : Nat) (l : List Du) (j : Nat), (upF f l j).length = l.length
  | 0, _, _ => rfl
  | f + 1, l, j => by
    rw [upF]
    split
    · rfl
    · split
      · rw [upF_len f, swapL_len]
      · rfl
theorem upF_perm : ∀ (f : Nat) (l : List Du) (j : Nat), j < l.length → (upF f l j).Perm l
  | 0, _, _, _ => List.Perm.refl _
  | f + 1, l, j, hj => by
    rw [upF]
    split
    · exact List.Perm.refl _
    · split
      · exact (upF_perm f _ _ (by rw [swapL_len]; omega)).trans (swapL_perm (by omega) hj)
      · exact List.Perm.refl _
theorem upF_far : ∀ (f : Nat) (l : List Du) (j : Nat), j < l.length → ∀ k, j < k → (upF f l j)[k]! = l[k]!
  | 0, _, _, _, _, _ => rfl
  | f + 1, l, j, hj, k, hk => by
    rw [upF]
    split
    · rfl
    · split
      · rw [upF_far f _ _ (by rw [swapL_len]; omega) k (by omega), swapL_at (by omega) hj, if_neg (by omega), if_neg (by omega)]
      · rfl
theorem upF_stop {f : Nat} {l : List Du} {j : Nat} (h : j = 0 ∨ lessD l[j]! l[(j - 1) / 2]! = false) : upF f l j = l := by
  cases f with
  | zero => rfl
  | succ f =>
    rw [upF]
    rcases h with h | h
    · rw [if_pos h]
    · rw [h]; simp
theorem upF_go {f : Nat} {l : List Du} {j : Nat} (h0 : j ≠ 0) (h : lessD l[j]! l[(j - 1) / 2]! = true) : upF (f + 1) l j = upF f (swapL l ((j - 1) / 2) j) ((j - 1) / 2) := by
  rw [upF, if_neg h0, if_pos h]
theorem kid_par {j : Nat} (h : j ≠ 0) : Kid ((j - 1) / 2) j := by unfold Kid; omega
theorem up_law (n : Nat) : ∀ (f : Nat) (l : List Du) (j : Nat), n ≤ l.length → j < n → j ≤ f → HeapEx 0 n j l → (∀ c, Kid j c → c < n → LeD l[j]! l[c]!) → Heap 0 n (upF f l j)
  | 0, l, j, hn, hjn, hf, H, hk => fun p c hp hpc hcn => by
    obtain rfl : j = 0 := by omega
    show LeD l[p]! l[c]!
    by_cases hpj : p = 0
    · subst hpj; exact hk c hpc hcn
    · exact H.edge p c hp hpc hcn hpj (by unfold Kid at hpc; omega)
  | f + 1, l, j, hn, hjn, hf, H, hk => by
    by_cases h0 : j = 0
    · rw [upF_stop (.inl h0)]
      intro p c hp hpc hcn
      subst h0
      by_cases hpj : p = 0
      · subst hpj; exact hk c hpc hcn
      · exact H.edge p c hp hpc hcn hpj (by unfold Kid at hpc; omega)
    · have hkid := kid_par h0
      cases hl : lessD l[j]! l[(j - 1) / 2]! with
      | false =>
        rw [upF_stop (.inr hl)]
        intro p c hp hpc hcn
        by_cases hpj : p = j
        · subst hpj; exact hk c hpc hcn
        · by_cases hcj : c = j
          · subst hcj
            obtain rfl : p = (c - 1) / 2 := hpc.par hkid
            exact hl
          · exact H.edge p c hp hpc hcn hpj hcj
      | true =>
        rw [upF_go h0 hl]
        have hxp := LeD.of_less hl
        clear hl
        generalize (j - 1) / 2 = q at *
        have hqj : q < j := by unfold Kid at hkid; omega
        have at_ := swapL_at (l := l) (i := q) (j := j) (by omega) (by omega)
        refine up_law n f _ q (by rw [swapL_len]; exact hn) (by omega) (by omega) ⟨?_, ?_⟩ ?_
        · intro p c hp hpc hcn hpq hcq
          rw [at_ p, at_ c, if_neg hpq, if_neg hcq]
          by_cases hpj : p = j
          · subst hpj
            rw [if_pos rfl, if_neg (by unfold Kid at hpc; omega)]
            exact H.grand q c (Nat.zero_le _) hkid hpc hcn
          · rw [if_neg hpj]
            by_cases hcj : c = j
            · subst hcj
              exact absurd (hpc.par hkid) hpq
            · rw [if_neg hcj]
              exact H.edge p c hp hpc hcn hpj hcj
        · intro p c hp hpq hqc hcn
          have h1 : LeD l[p]! l[q]! := H.edge p q hp hpq (by omega) (by unfold Kid at hpq; omega) (by omega)
          rw [at_ p, at_ c, if_neg (by unfold Kid at hpq; omega), if_neg (by unfold Kid at hpq; omega)]
          by_cases hcj : c = j
          · rw [if_pos hcj]; exact h1
          · rw [if_neg hcj, if_neg (by unfold Kid at hqc; omega)]
            exact h1.trans (H.edge q c (Nat.zero_le _) hqc hcn (by omega) hcj)
        · intro c hqc hcn
          rw [at_ q, at_ c, if_neg (by omega), if_pos rfl]
          by_cases hcj : c = j
          · rw [if_pos hcj]; exact hxp
          · rw [if_neg hcj, if_neg (by unfold Kid at hqc; omega)]
            exact hxp.trans (H.edge q c (Nat.zero_le _) hqc hcn (by omega) hcj)
theorem heap_least {n : Nat} {l : List Du} (h : Heap 0 n l) : ∀ k, k < n → LeD l[0]! l[k]! := by
  intro k
  induction k using Nat.strongRecOn with
  | ind k ih =>
    intro hk
    by_cases h0 : k = 0
    · subst h0; exact LeD.refl _
    · have hkid := kid_par h0
      have hlt : (k - 1) / 2 < k := by omega
      exact (ih _ hlt (by omega)).trans (h _ _ (Nat.zero_le _) hkid hk)
theorem takeAt (l : List Du) (m k : Nat) (hk : k < m) (hm : m ≤ l.length) : (l.take m)[k]! = l[k]! := by
  rw [getElem!_pos (l.take m) k (by rw [List.length_take]; omega), List.getElem_take, getElem!_pos l k (by omega)]
theorem heap_take {n : Nat} {l : List Du} (h : Heap 0 n l) (hn : n ≤ l.length) : Heap 0 n (l.take n) := fun p c hp hpc hcn => by
  rw [takeAt l n p (by unfold Kid at hpc; omega) hn, takeAt l n c hcn hn]
  exact h p c hp hpc hcn
/-- A list that is a heap, and has what a sorted one has. -/
structure HeapOf (l s : List Du) : Prop where
  perm : l.Perm s
  heap : Heap 0 l.length l
  sorted : s.Pairwise LeD
theorem HeapOf.of_sorted {s : List Du} (h : s.Pairwise LeD) : HeapOf s s :=
  ⟨List.Perm.refl _, fun p c _ hpc hcn => by
    have hp : p < s.length := by unfold Kid at hpc; omega
    rw [getElem!_pos s p hp, getElem!_pos s c hcn]
    exact List.pairwise_iff_getElem.1 h p c hp hcn (by unfold Kid at hpc; omega), h⟩
theorem sorted_unique {s s' : List Du} (h : s.Pairwise LeD) (h' : s'.Pairwise LeD) (hp : s.Perm s') : s = s' :=
  List.Perm.eq_of_pairwise (fun _ _ _ _ => LeD.anti) h h' hp
theorem HeapOf.init {l s : List Du} (hp : l.Perm s) (hs : s.Pairwise LeD) : HeapOf (initF l.length (l.length / 2) l) s := by
  obtain ⟨h1, h2⟩ := init_heap (l := l) rfl
  have := h2.length_eq
  exact ⟨h2.trans hp, by rw [this]; exact h1, hs⟩
def popF (l : List Du) (m : Nat) : List Du := (downF m (swapL l 0 m) 0 m).1
theorem lastOf {l : List Du} {m : Nat} (h : l.length = m + 1) : l = l.take m ++ [l[m]!] := by
  rw [getElem!_pos l m (by omega)]
  have := (List.take_append_getElem (l := l) (i := m) (by omega))
  rw [this, List.take_of_length_le (by omega)]
theorem HeapOf.root {l s : List Du} (h : HeapOf l s) (h0 : 0 < l.length) : s = l[0]! :: s.tail := by
  have hl := h.perm.length_eq
  cases s with
  | nil => simp at hl; subst hl; simp at h0
  | cons x t =>
    have h1 : LeD l[0]! x := by
      obtain ⟨k, hk, e⟩ := List.getElem_of_mem (h.perm.mem_iff.2 (List.mem_cons_self (a := x) (l := t)))
      have := heap_least h.heap k hk
      rw [getElem!_pos l k hk, e] at this
      exact this
    have h2 : LeD x l[0]! := by
      have : l[0]! ∈ x :: t := h.perm.mem_iff.1 (by rw [getElem!_pos l 0 h0]; exact List.getElem_mem _)
      rcases List.mem_cons.1 this with e | e
      · rw [e]; exact LeD.refl _
      · exact (List.pairwise_cons.1 h.sorted).1 _ e
    rw [LeD.anti h1 h2]; rfl
theorem HeapOf.pop {l s : List Du} {m : Nat} (h : HeapOf l s) (hl : l.length = m + 1) : (popF l m)[m]! = l[0]! ∧ (popF l m).length = m + 1 ∧ HeapOf ((popF l m).take m) s.tail := by
  have hs := h.root (by omega)
  have hlen : (popF l m).length = m + 1 := by unfold popF; rw [downF_len, swapL_len, hl]
  have hat := swapL_at (l := l) (i := 0) (j := m) (by omega) (by omega)
  have hlast : (popF l m)[m]! = l[0]! := by
    unfold popF
    rw [downF_far _ _ _ _ (by rw [swapL_len]; omega) m (Nat.le_refl _), hat m, if_pos rfl]
  have hp : (popF l m).Perm l := (downF_perm _ _ _ _ (by rw [swapL_len]; omega)).trans (swapL_perm (by omega) (by omega))
  refine ⟨hlast, hlen, ?_, ?_, ?_⟩
  · have e := lastOf hlen
    rw [hlast] at e
    have h1 : (l[0]! :: (popF l m).take m).Perm (popF l m) := by
      conv => rhs; rw [e]
      exact List.perm_append_singleton _ _ |>.symm
    have h2 : (l[0]! :: (popF l m).take m).Perm (l[0]! :: s.tail) := (h1.trans hp).trans (by rw [← hs]; exact h.perm)
    exact h2.cons_inv
  · rw [List.length_take, hlen, Nat.min_eq_left (by omega)]
    refine heap_take (down_heap (by rw [swapL_len]; omega) (Nat.le_refl _) (by omega) ⟨?_, ?_⟩ ?_) (by omega)
    · intro p c _ hpc hcm hp0 hc0
      rw [hat p, hat c, if_neg (by unfold Kid at hpc; omega), if_neg hp0, if_neg (by omega), if_neg hc0]
      exact h.heap p c (Nat.zero_le _) hpc (by omega)
    · intro p c _ hp0 _ _
      unfold Kid at hp0; omega
    · intro p _ hp0
      unfold Kid at hp0; omega
  · have := h.sorted
    rw [hs] at this
    exact (List.pairwise_cons.1 this).2
theorem appAt (l : List Du) (d : Du) (k : Nat) (hk : k < l.length) : (l ++ [d])[k]! = l[k]! := by
  rw [getElem!_pos (l ++ [d]) k (by simp; omega), List.getElem_append_left hk, getElem!_pos l k hk]
theorem HeapOf.push {l s s' : List Du} {d : Du} (h : HeapOf l s) (hp : s'.Perm (d :: s)) (hs : s'.Pairwise LeD) : HeapOf (upF l.length (l ++ [d]) l.length) s' := by
  refine ⟨(upF_perm _ _ _ (by simp)).trans (((List.perm_append_singleton _ _).trans (h.perm.cons d)).trans hp.symm), ?_, hs⟩
  rw [upF_len, List.length_append, List.length_singleton]
  refine up_law _ _ _ _ (by simp) (by omega) (Nat.le_refl _) ⟨?_, ?_⟩ ?_
  · intro p c _ hpc hcn hpl hcl
    rw [appAt _ _ _ (by unfold Kid at hpc; omega), appAt _ _ _ (by omega)]
    exact h.heap p c (Nat.zero_le _) hpc (by omega)
  · intro p c _ hpk hkc hcn
    unfold Kid at *; omega
  · intro c hc hcn
    unfold Kid at hc; omega
def removeF (l : List Du) (at_ m : Nat) : List Du :=
  if at_ = m then l else if at_ < (downF m (swapL l at_ m) at_ m).2 then (downF m (swapL l at_ m) at_ m).1 else upF at_ (downF m (swapL l at_ m) at_ m).1 at_
theorem HeapOf.remove {l s s' : List Du} {m k : Nat} (h : HeapOf l s) (hl : l.length = m + 1) (hk : k ≤ m) (hp : s.Perm (l[k]! :: s')) (hs : s'.Pairwise LeD) : (removeF l k m).length = m + 1 ∧ (removeF l k m)[m]! = l[k]! ∧ HeapOf ((removeF l k m).take m) s' := by
  have key : ∀ r : List Du, r.length = m + 1 → r[m]! = l[k]! → r.Perm l → Heap 0 m r → r.length = m + 1 ∧ r[m]! = l[k]! ∧ HeapOf (r.take m) s' := by
    intro r h1 h2 h3 h4
    refine ⟨h1, h2, ?_, ?_, hs⟩
    · have e := lastOf h1
      rw [h2] at e
      have h5 : (l[k]! :: r.take m).Perm r := by
        conv => rhs; rw [e]
        exact List.perm_append_singleton _ _ |>.symm
      exact (((h5.trans h3).trans h.perm).trans hp).cons_inv
    · rw [List.length_take, h1, Nat.min_eq_left (by omega)]
      exact heap_take h4 (by omega)
  unfold removeF
  have hh : Heap 0 (m + 1) l := by have := h.heap; rwa [hl] at this
  split
  · rename_i e
    subst e
    exact key l hl rfl (List.Perm.refl _) fun p c hp hpc hcn => hh p c hp hpc (by omega)
  · rename_i hne
    have hlt : k < m := by omega
    have at_ := swapL_at (l := l) (i := k) (j := m) (by omega) (by omega)
    have hlen : (downF m (swapL l k m) k m).1.length = m + 1 := by rw [downF_len, swapL_len, hl]
    have hlast : (downF m (swapL l k m) k m).1[m]! = l[k]! := by rw [downF_far _ _ _ _ (by rw [swapL_len]; omega) m (Nat.le_refl _), at_ m, if_pos rfl]
    have hperm : (downF m (swapL l k m) k m).1.Perm l := (downF_perm _ _ _ _ (by rw [swapL_len]; omega)).trans (swapL_perm (by omega) (by omega))
    have HX : HeapEx 0 m k (swapL l k m) := by
      refine ⟨fun p c _ hpc hcm hpk hck => ?_, fun p c _ hpk hkc hcm => ?_⟩
      · rw [at_ p, at_ c, if_neg (by unfold Kid at hpc; omega), if_neg hpk, if_neg (by omega), if_neg hck]
        exact hh p c (Nat.zero_le _) hpc (by omega)
      · rw [at_ p, at_ c, if_neg (by unfold Kid at hpk; omega), if_neg (by unfold Kid at hpk; omega), if_neg (by omega), if_neg (by unfold Kid at hkc; omega)]
        exact (hh p k (Nat.zero_le _) hpk (by omega)).trans (hh k c (Nat.zero_le _) hkc (by omega))
    rcases down_law 0 m m (swapL l k m) k (by rw [swapL_len]; omega) (Nat.zero_le _) (by omega) HX with ⟨e, hkid⟩ | ⟨h1, h2⟩
    · rw [e, if_neg (Nat.lt_irrefl _)]
      rw [e] at hlen hlast hperm
      refine key _ (by rw [upF_len]; exact hlen) ?_ ((upF_perm _ _ _ (by omega)).trans hperm) (up_law m _ _ _ (by rw [swapL_len]; omega) hlt (Nat.le_refl _) HX hkid)
      rw [upF_far _ _ _ (by omega) m hlt]; exact hlast
    · rw [if_pos h1]
      exact key _ hlen hlast hperm h2

/-- The reference's way: one is put in its place. -/
def putAt (l : List Du) (d : Du) : Nat → Nat
  | 0 => 0
  | k + 1 => if lessD d l[k]! = true then putAt l d k else k + 1
def putD (l : List Du) (d : Du) : List Du := l.take (putAt l d l.length) ++ d :: l.drop (putAt l d l.length)
def sortD (l : List Du) : List Du := l.foldl putD []
theorem putAt_le (l : List Du) (d : Du) : ∀ k, putAt l d k ≤ k
  | 0 => Nat.le_refl _
  | k + 1 => by
    rw [putAt]
    split
    · exact Nat.le_succ_of_le (putAt_le l d k)
    · exact Nat.le_refl _
theorem putAt_behind (l : List Du) (d : Du) : ∀ k j, putAt l d k ≤ j → j < k → lessD d l[j]! = true
  | 0, j, _, h => absurd h (Nat.not_lt_zero _)
  | k + 1, j, h1, h2 => by
    rw [putAt] at h1
    split at h1
    · rename_i hl
      by_cases e : j = k
      · subst e; exact hl
      · exact putAt_behind l d k j h1 (by omega)
    · omega
theorem putAt_ahead (l : List Du) (d : Du) : ∀ k, putAt l d k = 0 ∨ LeD l[putAt l d k - 1]! d
  | 0 => .inl rfl
  | k + 1 => by
    rw [putAt]
    split
    · exact putAt_ahead l d k
    · rename_i hl
      exact .inr (by unfold LeD; simpa using hl)
theorem putD_perm (l : List Du) (d : Du) : (putD l d).Perm (d :: l) := by
  unfold putD
  have := List.perm_middle (a := d) (l₁ := l.take (putAt l d l.length)) (l₂ := l.drop (putAt l d l.length))
  rwa [List.take_append_drop] at this
theorem putD_sorted {l : List Du} (d : Du) (h : l.Pairwise LeD) : (putD l d).Pairwise LeD := by
  unfold putD
  have hle := putAt_le l d l.length
  have hb := putAt_behind l d l.length
  have ha := putAt_ahead l d l.length
  generalize putAt l d l.length = a at *
  have hsp : ∀ i j (hi : i < l.length) (hj : j < l.length), i < j → LeD l[i] l[j] := List.pairwise_iff_getElem.1 h
  have hdrop : ∀ x ∈ l.drop a, LeD d x := by
    intro x hx
    obtain ⟨j, hj, e⟩ := List.getElem_of_mem hx
    rw [List.length_drop] at hj
    rw [List.getElem_drop] at e
    have := hb (a + j) (by omega) (by omega)
    rw [getElem!_pos l (a + j) (by omega), e] at this
    exact LeD.of_less this
  have htake : ∀ x ∈ l.take a, LeD x d := by
    intro x hx
    obtain ⟨j, hj, e⟩ := List.getElem_of_mem hx
    rw [List.length_take] at hj
    rw [List.getElem_take] at e
    rcases ha with ha | ha
    · omega
    · rw [getElem!_pos l (a - 1) (by omega)] at ha
      by_cases e2 : j = a - 1
      · subst e2; rw [← e]; exact ha
      · exact (e ▸ hsp j (a - 1) (by omega) (by omega) (by omega)).trans ha
  rw [List.pairwise_append]
  refine ⟨h.sublist (List.take_sublist _ _), List.pairwise_cons.2 ⟨hdrop, h.sublist (List.drop_sublist _ _)⟩, fun x hx y hy => ?_⟩
  rcases List.mem_cons.1 hy with rfl | hy
  · exact htake x hx
  · exact (htake x hx).trans (hdrop y hy)
theorem foldl_put : ∀ (l o : List Du), o.Pairwise LeD → (l.foldl putD o).Pairwise LeD ∧ (l.foldl putD o).Perm (l ++ o)
  | [], o, h => ⟨h, List.Perm.refl _⟩
  | d :: l, o, h => by
    obtain ⟨h1, h2⟩ := foldl_put l (putD o d) (putD_sorted d h)
    refine ⟨h1, h2.trans ?_⟩
    have : (l ++ putD o d).Perm (l ++ d :: o) := (putD_perm o d).append_left l
    exact this.trans List.perm_middle
theorem sortD_sorted (l : List Du) : (sortD l).Pairwise LeD := (foldl_put l [] List.Pairwise.nil).1
theorem sortD_perm (l : List Du) : (sortD l).Perm l := by have := (foldl_put l [] List.Pairwise.nil).2; rwa [List.append_nil] at this
end Go.Proofs.Ytimhdkgllgdamaa
