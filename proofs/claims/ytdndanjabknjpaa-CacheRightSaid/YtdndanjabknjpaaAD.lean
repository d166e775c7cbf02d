/- The plain law of CacheLast: a set holds the last so many addresses that were put into it. -/
import Derived.Test.YtdndanjabknjpaaAC
namespace Go.Proofs.Ytdndanjabknjpaa
open Go.RowKit Go.Lib
set_option linter.unusedVariables false

/-- The addresses of a set, the last put first, each once. -/
def recS (n s : Int) : List Int → List Int
  | [] => []
  | b :: r => if b % n = s then b :: (recS n s r).filter (fun c => decide (c ≠ b)) else recS n s r
theorem recS_mem {n s : Int} : ∀ {rl : List Int} {a : Int}, a ∈ recS n s rl → a ∈ rl ∧ a % n = s
  | [], a, h => by cases h
  | b :: r, a, h => by
    unfold recS at h
    by_cases e : b % n = s
    · rw [if_pos e] at h
      rcases List.mem_cons.1 h with rfl | h
      · exact ⟨List.mem_cons_self, e⟩
      · have := recS_mem (List.mem_filter.1 h).1
        exact ⟨List.mem_cons_of_mem _ this.1, this.2⟩
    · rw [if_neg e] at h
      have := recS_mem h
      exact ⟨List.mem_cons_of_mem _ this.1, this.2⟩
theorem recS_nodup (n s : Int) : ∀ rl, (recS n s rl).Nodup
  | [] => List.nodup_nil
  | b :: r => by
    unfold recS
    by_cases e : b % n = s
    · rw [if_pos e, List.nodup_cons]
      exact ⟨fun h => by simpa using (List.mem_filter.1 h).2, (recS_nodup n s r).filter _⟩
    · rw [if_neg e]; exact recS_nodup n s r
/-- What CacheLast counts: how many others of the set came since. -/
def many (n a : Int) : List Int → List Int → Nat → Option Nat
  | [], _, _ => none
  | b :: r, seen, k => if b = a then some k else if b % n = a % n ∧ b ∉ seen then many n a r (b :: seen) (k + 1) else many n a r seen k
theorem filter_ne_self {l : List Int} {b : Int} (h : b ∉ l) : l.filter (fun c => decide (c ≠ b)) = l := by
  rw [List.filter_eq_self]
  intro c hc
  simp only [decide_eq_true_eq]
  rintro rfl
  exact h hc
theorem many_at (n a : Int) : ∀ (rl seen : List Int) (k : Nat), a ∉ seen →
    (many n a rl seen k = none ∧ a ∉ recS n (a % n) rl) ∨ ∃ P Q, (recS n (a % n) rl).filter (fun c => decide (c ∉ seen)) = P ++ a :: Q ∧ a ∉ P ∧ many n a rl seen k = some (k + P.length)
  | [], seen, k, _ => .inl ⟨rfl, by unfold recS; simp⟩
  | b :: r, seen, k, ha => by
    by_cases e : b = a
    · subst e
      right
      refine ⟨[], (((recS n (b % n) r).filter (fun c => decide (c ≠ b))).filter fun c => decide (c ∉ seen)), ?_, by simp, by unfold many; rw [if_pos rfl]; simp⟩
      rw [recS, if_pos rfl, List.filter_cons_of_pos (by simpa using ha)]
      rfl
    · by_cases h1 : b % n = a % n
      · by_cases h2 : b ∈ seen
        · have hm : many n a (b :: r) seen k = many n a r seen k := by
            rw [many, if_neg e, if_neg (fun h => h.2 h2)]
          have hf : (recS n (a % n) (b :: r)).filter (fun c => decide (c ∉ seen)) = (recS n (a % n) r).filter (fun c => decide (c ∉ seen)) := by
            rw [recS, if_pos h1, List.filter_cons_of_neg (by simpa using h2), List.filter_filter]
            refine List.filter_congr fun c hc => ?_
            by_cases hcs : c ∈ seen
            · simp [hcs]
            · have : c ≠ b := fun hh => hcs (hh ▸ h2)
              simp [hcs, this]
          rcases many_at n a r seen k ha with ⟨g1, g2⟩ | ⟨P, Q, g1, g2, g3⟩
          · left
            refine ⟨by rw [hm]; exact g1, fun h => ?_⟩
            rw [recS, if_pos h1] at h
            rcases List.mem_cons.1 h with h | h
            · exact e h.symm
            · exact g2 (List.mem_filter.1 h).1
          · exact .inr ⟨P, Q, by rw [hf]; exact g1, g2, by rw [hm]; exact g3⟩
        · have hm : many n a (b :: r) seen k = many n a r (b :: seen) (k + 1) := by
            rw [many, if_neg e, if_pos ⟨h1, h2⟩]
          have hf : (recS n (a % n) (b :: r)).filter (fun c => decide (c ∉ seen)) = b :: (recS n (a % n) r).filter (fun c => decide (c ∉ b :: seen)) := by
            rw [recS, if_pos h1, List.filter_cons_of_pos (by simpa using h2), List.filter_filter]
            congr 1
            refine List.filter_congr fun c hc => ?_
            by_cases hcs : c ∈ seen <;> by_cases hcb : c = b <;> simp [hcs, hcb]
          have ha2 : a ∉ b :: seen := fun h => by
            rcases List.mem_cons.1 h with h | h
            · exact e h.symm
            · exact ha h
          rcases many_at n a r (b :: seen) (k + 1) ha2 with ⟨g1, g2⟩ | ⟨P, Q, g1, g2, g3⟩
          · left
            refine ⟨by rw [hm]; exact g1, fun h => ?_⟩
            rw [recS, if_pos h1] at h
            rcases List.mem_cons.1 h with h | h
            · exact e h.symm
            · exact g2 (List.mem_filter.1 h).1
          · right
            refine ⟨b :: P, Q, by rw [hf, g1]; rfl, fun h => ?_, by rw [hm, g3, List.length_cons]; congr 1; omega⟩
            rcases List.mem_cons.1 h with h | h
            · exact e h.symm
            · exact g2 h
      · have hm : many n a (b :: r) seen k = many n a r seen k := by
          rw [many, if_neg e, if_neg (fun h => h1 h.1)]
        have hf : recS n (a % n) (b :: r) = recS n (a % n) r := by rw [recS, if_neg h1]
        rw [hm, hf]
        exact many_at n a r seen k ha
/-- An address is among the last m of its set, as CacheLast counts. -/
theorem many_take (n a : Int) (rl : List Int) (m : Nat) : (∃ j, many n a rl [] 0 = some j ∧ j < m) ↔ a ∈ (recS n (a % n) rl).take m := by
  have hf : (recS n (a % n) rl).filter (fun c => decide (c ∉ ([] : List Int))) = recS n (a % n) rl := by
    rw [List.filter_eq_self]; intro c _; simp
  rcases many_at n a rl [] 0 (by simp) with ⟨g1, g2⟩ | ⟨P, Q, g1, g2, g3⟩
  · constructor
    · rintro ⟨j, h, _⟩; rw [g1] at h; cases h
    · intro h; exact absurd (List.mem_of_mem_take h) g2
  · rw [hf] at g1
    rw [g3, g1]
    constructor
    · rintro ⟨j, h, hj⟩
      injection h with h
      rw [List.take_append]
      refine List.mem_append_right _ ?_
      rw [show m - P.length = (m - P.length - 1) + 1 by omega, List.take_succ_cons]
      exact List.mem_cons_self
    · intro h
      refine ⟨_, rfl, ?_⟩
      by_cases hm : 0 + P.length < m
      · exact hm
      · rw [List.take_append_of_le_length (by omega)] at h
        exact absurd (List.mem_of_mem_take h) g2
/-- A set of a cache, and the addresses that were put. -/
def InSet (l : List Ln) (r : List Int) (m : Nat) : Prop := ∃ L' : List Ln, L'.Perm l ∧ L'.map Ln.addr = r.take m ∧ L'.Pairwise (fun a b => b.used < a.used)
theorem InSet.mem {l : List Ln} {r : List Int} {m : Nat} (h : InSet l r m) (a : Int) : (∃ y ∈ l, y.addr = a) ↔ a ∈ r.take m := by
  obtain ⟨L', h1, h2, _⟩ := h
  rw [← h2, List.mem_map]
  constructor
  · rintro ⟨y, hy, e⟩; exact ⟨y, h1.mem_iff.2 hy, e⟩
  · rintro ⟨y, hy, e⟩; exact ⟨y, h1.mem_iff.1 hy, e⟩
theorem take_filter {r : List Int} {m : Nat} {t : Int} (hn : r.Nodup) (hm : 0 < m) (h : t ∉ r.take m) : (r.filter (fun c => decide (c ≠ t))).take (m - 1) = r.take (m - 1) := by
  have e : r = r.take m ++ r.drop m := (List.take_append_drop m r).symm
  have e2 : r.filter (fun c => decide (c ≠ t)) = r.take m ++ (r.drop m).filter (fun c => decide (c ≠ t)) := by
    conv => lhs; rw [e]
    rw [List.filter_append, filter_ne_self h]
  rw [e2]
  by_cases hl : m ≤ r.length
  · rw [List.take_append_of_le_length (by rw [List.length_take]; omega), List.take_take]
    congr 1
    omega
  · rw [List.drop_of_length_le (by omega), List.take_of_length_le (show r.length ≤ m by omega)]
    simp
theorem InSet.found {l : List Ln} {r : List Int} {m k : Nat} {t : Int} {y' : Ln} (h : InSet l r m) (hr : r.Nodup) (hm : 0 < m) (hk : k < l.length) (hka : l[k]!.addr = t) (hy : y'.addr = t) (hu : ∀ y ∈ l, y.used < y'.used) (hnd : (l.map Ln.addr).Nodup) :
    InSet (l.set k y') (t :: r.filter (fun c => decide (c ≠ t))) m := by
  obtain ⟨L', h1, h2, h3⟩ := h
  have hL : l = l.take k ++ l[k]! :: l.drop (k + 1) := by
    rw [getElem!_pos l k hk, List.getElem_cons_drop, List.take_append_drop]
  have hset : (l.set k y').Perm (y' :: (l.take k ++ l.drop (k + 1))) := by
    rw [List.set_eq_take_append_cons_drop, if_pos hk]
    exact List.perm_middle
  have hin : l[k]! ∈ L' := h1.mem_iff.2 (by rw [getElem!_pos l k hk]; exact List.getElem_mem _)
  obtain ⟨P, Q, rfl⟩ := List.append_of_mem hin
  have hp : (P ++ Q).Perm (l.take k ++ l.drop (k + 1)) := by
    have g1 : (l[k]! :: (P ++ Q)).Perm l := (List.perm_middle.symm).trans h1
    have g2 : l.Perm (l[k]! :: (l.take k ++ l.drop (k + 1))) := by
      conv => lhs; rw [hL]
      exact List.perm_middle
    exact (g1.trans g2).cons_inv
  have hsub : (P ++ Q).Sublist (P ++ l[k]! :: Q) := List.Sublist.append (List.Sublist.refl _) (List.sublist_cons_self _ _)
  refine ⟨y' :: (P ++ Q), (hp.cons y').trans hset.symm, ?_, ?_⟩
  · rw [List.map_cons, hy]
    have e : m = (m - 1) + 1 := by omega
    conv => rhs; rw [e]
    rw [List.take_succ_cons]
    congr 1
    rw [List.map_append, List.map_cons, hka] at h2
    have hn2 : (P.map Ln.addr ++ t :: Q.map Ln.addr).Nodup := by rw [h2]; exact hr.sublist (List.take_sublist _ _)
    rw [List.nodup_append, List.nodup_cons] at hn2
    have hP : t ∉ P.map Ln.addr := fun hx => hn2.2.2 _ hx _ List.mem_cons_self rfl
    have hQ : t ∉ Q.map Ln.addr := hn2.2.1.1
    have hdrop : t ∉ r.drop m := fun hx => by
      have g : (r.take m ++ r.drop m).Nodup := by rw [List.take_append_drop]; exact hr
      rw [List.nodup_append] at g
      exact g.2.2 t (by rw [← h2]; simp) t hx rfl
    have e2 : r.filter (fun c => decide (c ≠ t)) = P.map Ln.addr ++ Q.map Ln.addr ++ r.drop m := by
      conv => lhs; rw [← List.take_append_drop m r, ← h2]
      rw [List.filter_append, List.filter_append, filter_ne_self hdrop, filter_ne_self hP, List.filter_cons_of_neg (by simp), filter_ne_self hQ]
    rw [e2, List.map_append]
    have hlen := congrArg List.length h2
    rw [List.length_append, List.length_cons, List.length_take] at hlen
    by_cases hl : m ≤ r.length
    · rw [List.take_append_of_le_length (by simp at hlen ⊢; omega), List.take_of_length_le (by simp at hlen ⊢; omega)]
    · rw [List.drop_of_length_le (by omega), List.append_nil, List.take_of_length_le (by simp at hlen ⊢; omega)]
  · rw [List.pairwise_cons]
    exact ⟨fun z hz => hu z (h1.mem_iff.1 (hsub.subset hz)), h3.sublist hsub⟩
theorem InSet.fits {l : List Ln} {r : List Int} {m : Nat} {t : Int} {y' : Ln} (h : InSet l r m) (hr : r.Nodup) (hm : 0 < m) (hl : l.length < m) (hno : ∀ y ∈ l, y.addr ≠ t) (hy : y'.addr = t) (hu : ∀ y ∈ l, y.used < y'.used) :
    InSet (l ++ [y']) (t :: r.filter (fun c => decide (c ≠ t))) m := by
  have hmem : t ∉ r.take m := fun hx => by obtain ⟨y, hy, e⟩ := (h.mem t).2 hx; exact hno y hy e
  obtain ⟨L', h1, h2, h3⟩ := h
  have hlen := congrArg List.length h2
  rw [List.length_map, h1.length_eq, List.length_take] at hlen
  have hrl : r.length < m := by omega
  refine ⟨y' :: L', ?_, ?_, ?_⟩
  · exact (List.perm_append_comm (l₁ := [y']) (l₂ := L')).trans (h1.append_right _)
  · rw [List.map_cons, hy, h2]
    rw [List.take_of_length_le (show r.length ≤ m by omega)] at hmem ⊢
    rw [filter_ne_self hmem, List.take_of_length_le (by simp; omega)]
  · rw [List.pairwise_cons]
    exact ⟨fun z hz => hu z (h1.mem_iff.1 hz), h3⟩
theorem InSet.out {l : List Ln} {r : List Int} {m : Nat} {t : Int} {y' : Ln} (h : InSet l r m) (hr : r.Nodup) (hm : 0 < m) (hl : l.length = m) (hno : ∀ y ∈ l, y.addr ≠ t) (hy : y'.addr = t) (hu : ∀ y ∈ l, y.used < y'.used) :
    InSet (l.filter (fun y => !decide (y = minD l)) ++ [y']) (t :: r.filter (fun c => decide (c ≠ t))) m := by
  have hmem : t ∉ r.take m := fun hx => by obtain ⟨y, hy, e⟩ := (h.mem t).2 hx; exact hno y hy e
  obtain ⟨L', h1, h2, h3⟩ := h
  have hl2 : L'.length = m := h1.length_eq.trans hl
  have hne : L' ≠ [] := fun e => by rw [e] at hl2; simp at hl2; omega
  obtain ⟨Q, z, rfl⟩ : ∃ Q z, L' = Q ++ [z] := ⟨L'.dropLast, L'.getLast hne, (List.dropLast_concat_getLast hne).symm⟩
  rw [List.pairwise_append] at h3
  have hz : minD l = z := by
    have g1 := minD_mem (l := l) (by omega)
    have g2 : (minD l).used ≤ z.used := minD_le (h1.mem_iff.1 (by simp))
    rcases List.mem_append.1 (h1.mem_iff.2 g1) with g | g
    · have := h3.2.2 _ g z (by simp)
      omega
    · simpa using g
  have hQ : Q.filter (fun y => !decide (y = z)) = Q := by
    rw [List.filter_eq_self]
    intro y hyQ
    have := h3.2.2 y hyQ z (by simp)
    have : y ≠ z := by rintro rfl; omega
    simp [this]
  have hp : (l.filter (fun y => !decide (y = z))).Perm Q := by
    have := h1.filter (fun y => !decide (y = z))
    rw [List.filter_append, hQ] at this
    simp at this
    simpa using this.symm
  rw [hz]
  refine ⟨y' :: Q, ?_, ?_, ?_⟩
  · exact (List.perm_append_comm (l₁ := [y']) (l₂ := Q)).trans (hp.symm.append_right _)
  · rw [List.map_cons, hy]
    have e : m = (m - 1) + 1 := by omega
    conv => rhs; rw [e]
    rw [List.take_succ_cons, take_filter hr hm hmem]
    congr 1
    have hlen := congrArg List.length h2
    rw [List.length_map, hl2, List.length_take] at hlen
    have := congrArg List.dropLast h2
    rw [List.map_append, List.map_cons, List.map_nil, List.dropLast_concat, List.dropLast_eq_take, List.length_take, List.take_take, show min (min m r.length - 1) m = m - 1 by omega] at this
    exact this
  · rw [List.pairwise_cons]
    exact ⟨fun w hw => hu w (h1.mem_iff.1 (List.mem_append_left _ hw)), h3.1⟩
/-- Where CacheLast stands: rl: what was put, the last first. -/
structure LastInv (n m : Nat) (rl : List Int) (x : Ca) : Prop where
  sets : x.sets = (n : Int)
  ways : x.ways = (m : Int)
  clock : x.clock = (rl.length : Int)
  right : rightC x = true
  wf : WfC x
  num : x.lines.length = n
  ins : ∀ s, s < n → InSet x.lines[s]! (recS n s rl) m
theorem LastInv.small {n m : Nat} {rl : List Int} {x : Ca} (h : LastInv n m rl x) : ∀ s, s < n → x.lines[s]!.length ≤ 1000000 := fun s hs => by
  have := ((rightC_iff.1 h.right).sets s (by rw [h.num]; exact hs)).1
  have := (right_facts h.right).2.2.2.1
  omega
theorem rep_get (n : Nat) : ∀ s : Nat, (List.replicate n ([] : List Ln))[s]! = [] := fun s => by
  by_cases h : s < n
  · rw [getElem!_pos _ s (by simpa using h), List.getElem_replicate]
  · rw [getElem!_neg _ s (by simpa using h)]; rfl
theorem LastInv.new {n m : Nat} (h1 : 1 ≤ n) (h2 : n ≤ 8) (h3 : 1 ≤ m) (h4 : m ≤ 8) : LastInv n m [] ⟨n, m, 0, List.replicate n []⟩ := by
  have hf : (List.replicate n ([] : List Ln)).flatten = [] := by
    rw [List.flatten_eq_nil_iff]
    intro l hl
    exact List.eq_of_mem_replicate hl
  refine ⟨rfl, rfl, rfl, rightC_iff.2 ⟨?_, fun s hs => ?_, ?_, ?_⟩, fun s i hs hi => ?_, by simp, fun s hs => ?_⟩
  · simp [formedB]; omega
  · refine ⟨?_, fun i hi => ?_⟩
    · show (((List.replicate n ([] : List Ln))[s]!.length : Nat) : Int) ≤ (m : Int)
      rw [rep_get]; simp
    · have hi2 : i < (List.replicate n ([] : List Ln))[s]!.length := hi
      rw [rep_get] at hi2
      exact absurd hi2 (Nat.not_lt_zero _)
  · show ((List.replicate n ([] : List Ln)).flatten.map Ln.addr).Nodup
    rw [hf]; exact List.nodup_nil
  · show ((List.replicate n ([] : List Ln)).flatten.map Ln.used).Nodup
    rw [hf]; exact List.nodup_nil
  · have hi2 : i < (List.replicate n ([] : List Ln))[s]!.length := hi
    rw [rep_get] at hi2
    exact absurd hi2 (Nat.not_lt_zero _)
  · show InSet (List.replicate n ([] : List Ln))[s]! _ _
    rw [rep_get]
    exact ⟨[], List.Perm.refl _, by unfold recS; simp, List.Pairwise.nil⟩
theorem LastInv.may {n m : Nat} {rl : List Int} {x : Ca} (h : LastInv n m rl x) {t : Int} (h0 : 0 ≤ t) (hl : rl.length ≤ 100) : mayC x t = true := by
  unfold mayC
  rw [h.right, decide_eq_true h0, h.clock, decide_eq_true (by omega)]
  rfl
theorem LastInv.step {n m : Nat} {rl : List Int} {x : Ca} (h : LastInv n m rl x) {t v : Int} (h0 : 0 ≤ t) (h1 : t ≤ 255) (hl : rl.length ≤ 100) : (putC x t 1 v).2.2 = 0 ∧ LastInv n m (t :: rl) (putC x t 1 v).1 := by
  have hm := h.may h0 hl
  have hR := rightC_iff.1 h.right
  obtain ⟨f1, f2, f3, f4, f5, f6, f7⟩ := right_facts h.right
  have hp := right_put (v := v) hm (show 1 ≤ (1 : Int) ∧ (1 : Int) ≤ 4 by omega)
  have hw := wf_put (v := v) (st := 1) h.wf (t := t) (by simp [Lit.wf, IntKind.min, IntKind.max, IntKind.signed, IntKind.bits]; omega)
  obtain ⟨s, hs, hsl, h3⟩ := put_ways (v := v) hm (show 1 ≤ (1 : Int) ∧ (1 : Int) ≤ 4 by omega)
  have hsn : s < n := by rw [← h.num]; exact hsl
  have hts : t % (n : Int) = (s : Int) := by rw [← Int.tmod_eq_emod_of_nonneg h0, ← h.sets]; exact hs
  have hrec : recS n s (t :: rl) = t :: (recS n s rl).filter (fun c => decide (c ≠ t)) := by rw [recS, if_pos hts]
  have hrec2 : ∀ j : Nat, j ≠ s → recS n j (t :: rl) = recS n j rl := fun j hj => by rw [recS, if_neg (by rw [hts]; omega)]
  have hu : ∀ y ∈ x.lines[s]!, y.used < x.clock + 1 := fun y hy => by have := (hR.line hsl hy).2.2.2.2.2; omega
  have hins := h.ins s hsn
  have hm0 : 0 < m := by have := h.ways; omega
  have key : ∀ l, InSet l (t :: (recS n s rl).filter (fun c => decide (c ≠ t))) m → ∀ j, j < n → InSet (x.lines.set s l)[j]! (recS n j (t :: rl)) m := fun l hl j hj => by
    rw [setGet]
    by_cases e : s = j
    · subst e
      rw [if_pos ⟨rfl, hsl⟩, hrec]; exact hl
    · rw [if_neg (fun hh => e hh.1), hrec2 j (Ne.symm e)]
      exact h.ins j hj
  refine ⟨hp.2, ?_⟩
  have hright := hp.1
  have hcl : x.clock + 1 = ((t :: rl).length : Int) := by rw [h.clock, List.length_cons]; omega
  rcases h3 with ⟨k, hk, hka, e⟩ | ⟨hno, hww, e⟩ | ⟨hno, hww, e⟩
  · rw [e] at hright hw ⊢
    exact ⟨h.sets, h.ways, hcl, hright, hw, by simpa using h.num, key _ (hins.found (recS_nodup _ _ _) hm0 hk hka rfl hu (hR.nodupA hsl))⟩
  · rw [e] at hright hw ⊢
    have := (hR.sets s hsl).1
    exact ⟨h.sets, h.ways, hcl, hright, hw, by simpa using h.num, key _ (hins.fits (recS_nodup _ _ _) hm0 (by have := h.ways; omega) hno rfl hu)⟩
  · rw [e] at hright hw ⊢
    exact ⟨h.sets, h.ways, hcl, hright, hw, by simpa using h.num, key _ (hins.out (recS_nodup _ _ _) hm0 (by have := h.ways; omega) hno rfl hu)⟩
/-- A look for an address. -/
theorem look_iff {x : Ca} (hr : rightC x = true) {a : Int} (h0 : 0 ≤ a) {s : Nat} (hs : a.tmod x.sets = (s : Int)) : (lookC x a).2 = true ↔ ∃ y ∈ x.lines[s]!, y.addr = a := by
  unfold lookC setOf
  rw [if_pos ⟨hr, h0⟩, hs, Int.toNat_natCast]
  rcases idxA_cases x.lines[s]! a with ⟨hi, hno⟩ | ⟨k, hk, hi, hka, _⟩
  · rw [hi, if_pos (by omega)]
    refine ⟨fun h => (by cases h), fun ⟨y, hy, e⟩ => ?_⟩
    obtain ⟨j, hj, rfl⟩ := List.getElem_of_mem hy
    have := hno j hj
    rw [getElem!_pos x.lines[s]! j hj] at this
    exact absurd e (of_decide_eq_false this)
  · rw [hi, if_neg (by omega)]
    refine ⟨fun _ => ⟨x.lines[s]![k]!, ?_, hka⟩, fun _ => rfl⟩
    rw [getElem!_pos x.lines[s]! k hk]
    exact List.getElem_mem _
theorem LastInv.look {n m : Nat} {rl : List Int} {x : Ca} (h : LastInv n m rl x) {a : Int} (h0 : 0 ≤ a) : (lookC x a).2 = true ↔ ∃ j, many n a rl [] 0 = some j ∧ j < m := by
  obtain ⟨s, hs, hsl, _⟩ := set_of h.right h0
  have hsn : s < n := by rw [← h.num]; exact hsl
  have hts : a % (n : Int) = (s : Int) := by rw [← Int.tmod_eq_emod_of_nonneg h0, ← h.sets]; exact hs
  rw [look_iff h.right h0 hs, (h.ins s hsn).mem, many_take, hts]
end Go.Proofs.Ytdndanjabknjpaa
