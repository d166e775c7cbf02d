/- The plain law of CommitSure: what a gate holds and let out, as intervals begin, are sure, and are gone back to. -/
import Derived.Test.YtkkbpcnoamagcaaR
import Derived.Test.YtkkbpcnoamagcaaJ
namespace Go.Proofs.Ytkkbpcnoamagcaa
open Go.RowKit Go.Lib
set_option linter.unusedVariables false

theorem belowN_lt {h : List Hld} {k : Int} {j : Nat} (hj : j < belowN h k) : h[j]!.span < k := by
  induction h generalizing j with
  | nil => simp [belowN] at hj
  | cons x h ih =>
    by_cases hx : x.span < k
    · have e1 : belowN (x :: h) k = belowN h k + 1 := by simp [belowN, hx]
      rw [e1] at hj
      cases j with
      | zero => simpa using hx
      | succ j => have := ih (j := j) (by omega); simpa using this
    · have e1 : belowN (x :: h) k = 0 := by simp [belowN, hx]
      omega
theorem belowN_ge {h : List Hld} (hr : rightB h = true) {k : Int} {j : Nat} (hj : belowN h k ≤ j) (hl : j < h.length) : k ≤ h[j]!.span := by
  have h2 := (filter_low hr k).2
  have hm : h[j]! ∈ h.drop (belowN h k) := by
    rw [getElem!_pos h j hl]
    exact List.mem_iff_getElem.2 ⟨j - belowN h k, by rw [List.length_drop]; omega, by rw [List.getElem_drop]; congr 1; omega⟩
  rw [← h2] at hm
  have := (List.mem_filter.1 hm).2
  simpa [highB] using this
theorem rightB_take {h : List Hld} (hr : rightB h = true) (j : Nat) : rightB (h.take j) = true := by
  rw [rightB_iff] at hr ⊢
  intro i hi
  rw [List.length_take] at hi
  obtain ⟨a, b, c⟩ := hr i (by omega)
  have e : (h.take j)[i]! = h[i]! := by rw [getElem!_pos _ i (by rw [List.length_take]; omega), getElem!_pos h i (by omega), List.getElem_take]
  refine ⟨a, by rw [e]; exact b, fun h0 => ?_⟩
  have e2 : (h.take j)[i - 1]! = h[i - 1]! := by rw [getElem!_pos _ (i - 1) (by rw [List.length_take]; omega), getElem!_pos h (i - 1) (by omega), List.getElem_take]
  rw [e, e2]; exact c h0
/-- What is known as the program goes on: all that was told, with its interval, and the gate. -/
structure St (l : List Hld) (span sure : Int) (G : Gt) (i : Nat) : Prop where
  len : l.length ≤ i
  s0 : 0 ≤ sure
  s1 : sure ≤ span
  s2 : span ≤ i
  right : rightB l = true
  top : ∀ j, j < l.length → l[j]!.span ≤ span
  held : G.held = l.drop (belowN l sure)
  out : G.out = (l.take (belowN l sure)).map Hld.told

section
variable {l : List Hld} {span sure : Int} {G : Gt} {i : Nat}
theorem St.start : St [] 0 0 ⟨[], []⟩ 0 := ⟨Nat.le_refl _, by decide, by decide, by decide, rfl, (fun j hj => by cases hj), rfl, rfl⟩
theorem St.all (h : St l span sure G i) : allG G = l.map Hld.told := by
  rw [allG, h.held, h.out, ← List.map_append, List.take_append_drop]
theorem St.rightG (h : St l span sure G i) : rightB G.held = true := by rw [h.held]; exact rightB_drop h.right _
theorem St.outn (h : St l span sure G i) : G.out.length = belowN l sure := by
  rw [h.out, List.length_map, List.length_take]; have := belowN_le l sure; omega
theorem St.len2 (h : St l span sure G i) : G.held.length ≤ i ∧ G.out.length ≤ i := by
  have := belowN_le l sure
  rw [h.outn, h.held, List.length_drop]
  have := h.len
  omega
theorem St.mono (h : St l span sure G i) {j : Nat} (hj : i ≤ j) : St l span sure G j := ⟨by have := h.len; omega, h.s0, h.s1, by have := h.s2; omega, h.right, h.top, h.held, h.out⟩
theorem St.next (h : St l span sure G i) : St l (span + 1) sure G (i + 1) :=
  ⟨by have := h.len; omega, h.s0, by have := h.s1; omega, by have := h.s2; omega, h.right, fun j hj => by have := h.top j hj; omega, h.held, h.out⟩
theorem St.spanOk (h : St l span sure G i) (hi : i < 1000) {k : Int} (h0 : sure ≤ k) (h1 : k ≤ span) : spanB k = true := by
  have := h.s0; have := h.s2
  simp [spanB]; omega
theorem St.tell (h : St l span sure G i) (hi : i < 60) (t : Tld) : ∃ G', tellG G span t = (G', 0) ∧ St (l ++ [⟨t.core, t.val, span⟩]) span sure G' (i + 1) ∧ G'.out = G.out ∧ G'.held.length = G.held.length + 1 := by
  have hl := h.len2
  have hll := h.len
  have hb := belowN_le l sure
  have hlate : lateB G.held span = false := by
    simp only [lateB, decide_eq_false_iff_not]
    rintro ⟨h0, h1⟩
    rw [h.held, List.length_drop] at h0
    have e : G.held[G.held.length - 1]! = l[l.length - 1]! := by
      rw [h.held, List.length_drop, getElem!_pos _ _ (by rw [List.length_drop]; omega), getElem!_pos l _ (by omega), List.getElem_drop]
      congr 1; omega
    rw [e] at h1
    have := h.top (l.length - 1) (by omega)
    omega
  refine ⟨⟨G.held ++ [⟨t.core, t.val, span⟩], G.out⟩, ?_, ?_, rfl, by simp⟩
  · unfold tellG
    rw [if_neg (by rw [h.rightG, h.spanOk (by omega) h.s1 (Int.le_refl _), hlate]; simp), if_neg (by omega)]
  · have hbel : belowN (l ++ [⟨t.core, t.val, span⟩]) sure = belowN l sure := by
      have h1 := h.s1
      clear hlate hb hl
      have : ¬ span < sure := by omega
      clear h1 hll h
      induction l with
      | nil => simp [belowN, this]
      | cons x l ih =>
        by_cases hx : x.span < sure
        · have e1 : belowN (x :: l) sure = belowN l sure + 1 := by simp [belowN, hx]
          have e2 : belowN (x :: l ++ [⟨t.core, t.val, span⟩]) sure = belowN (l ++ [⟨t.core, t.val, span⟩]) sure + 1 := by simp [belowN, hx]
          rw [e1, e2, ih]
        · simp [belowN, hx]
    refine ⟨by simp; exact h.len, h.s0, h.s1, by have := h.s2; omega, ?_, ?_, ?_, ?_⟩
    · rw [rightB_iff]
      intro j hj
      rw [List.length_append, List.length_singleton] at hj
      by_cases hj2 : j < l.length
      · obtain ⟨a, b, c⟩ := (rightB_iff l).1 h.right j hj2
        have e : ∀ q, q < l.length → (l ++ [⟨t.core, t.val, span⟩])[q]! = l[q]! := fun q hq => by
          rw [getElem!_pos _ q (by simp; omega), getElem!_pos l q hq, List.getElem_append_left hq]
        exact ⟨a, by rw [e j hj2]; exact b, fun h0 => by rw [e j hj2, e (j - 1) (by omega)]; exact c h0⟩
      · obtain rfl : j = l.length := by omega
        have e1 : (l ++ [(⟨t.core, t.val, span⟩ : Hld)])[l.length]! = ⟨t.core, t.val, span⟩ := by rw [getElem!_pos _ _ (by simp)]; simp
        refine ⟨by omega, by rw [e1]; exact h.spanOk (by omega) h.s1 (Int.le_refl _), fun h0 => ?_⟩
        rw [e1, getElem!_pos _ (l.length - 1) (by simp; omega), List.getElem_append_left (by omega), ← getElem!_pos l (l.length - 1) (by omega)]
        exact h.top _ (by omega)
    · intro j hj
      rw [List.length_append, List.length_singleton] at hj
      by_cases hj2 : j < l.length
      · rw [getElem!_pos _ j (by simp; omega), List.getElem_append_left hj2, ← getElem!_pos l j hj2]
        exact h.top j hj2
      · obtain rfl : j = l.length := by omega
        rw [getElem!_pos _ _ (by simp)]; simp
    · rw [hbel, List.drop_append_of_le_length hb, ← h.held]
    · rw [hbel, List.take_append_of_le_length hb, ← h.out]
theorem St.sureN (h : St l span sure G i) (hi : i < 60) {k : Int} (h0 : sure ≤ k) (h1 : k ≤ span) : ∃ G', sureG G k = (G', 0) ∧ St l span k G' (i + 1) ∧ G.out.length ≤ G'.out.length ∧ G'.out.take G.out.length = G.out := by
  have hb := belowN_le l sure
  have hd := belowN_drop l sure k h0
  refine ⟨⟨G.held.drop (belowN G.held k), G.out ++ (G.held.take (belowN G.held k)).map Hld.told⟩, ?_, ?_, by simp, by simp⟩
  · unfold sureG; rw [if_neg (by rw [h.rightG, h.spanOk (by omega) h0 h1]; simp)]
  · refine ⟨by have := h.len; omega, by have := h.s0; omega, h1, by have := h.s2; omega, h.right, h.top, ?_, ?_⟩
    · show G.held.drop (belowN G.held k) = _
      rw [h.held, List.drop_drop, hd]
    · show G.out ++ (G.held.take (belowN G.held k)).map Hld.told = _
      rw [h.out, h.held, ← List.map_append, hd, ← List.take_add]
theorem St.back (h : St l span sure G i) (hi : i < 60) {k : Int} (h0 : sure ≤ k) (h1 : k ≤ span) : ∃ G', backG G k = (G', 0) ∧ St (l.take (belowN l k)) k sure G' (i + 1) ∧ G'.out = G.out := by
  have hb := belowN_le l sure
  have hbk := belowN_le l k
  have hd := belowN_drop l sure k h0
  have e1 : belowN (l.take (belowN l k)) sure = belowN l sure := by
    have hr2 := rightB_take h.right (belowN l k)
    have hle : belowN l sure ≤ belowN l k := by omega
    rcases Nat.lt_trichotomy (belowN (l.take (belowN l k)) sure) (belowN l sure) with hc | hc | hc
    · exfalso
      have a := belowN_lt (h := l) (k := sure) hc
      have b := belowN_ge hr2 (k := sure) (Nat.le_refl _) (by rw [List.length_take]; omega)
      rw [getElem!_pos _ _ (by rw [List.length_take]; omega), List.getElem_take, ← getElem!_pos l _ (by omega)] at b
      omega
    · exact hc
    · exfalso
      have hlt : belowN (l.take (belowN l k)) sure ≤ (l.take (belowN l k)).length := belowN_le _ _
      rw [List.length_take] at hlt
      have a := belowN_lt hc
      have b := belowN_ge h.right (k := sure) (Nat.le_refl _) (by omega)
      rw [getElem!_pos _ _ (by rw [List.length_take]; omega), List.getElem_take, ← getElem!_pos l _ (by omega)] at a
      omega
  refine ⟨⟨G.held.take (belowN G.held k), G.out⟩, ?_, ?_, rfl⟩
  · unfold backG; rw [if_neg (by rw [h.rightG, h.spanOk (by omega) h0 h1]; simp)]
  · refine ⟨by rw [List.length_take]; have := h.len; omega, h.s0, h0, by have := h.s2; omega, rightB_take h.right _, ?_, ?_, ?_⟩
    · intro j hj
      rw [List.length_take] at hj
      rw [getElem!_pos _ j (by rw [List.length_take]; omega), List.getElem_take, ← getElem!_pos l j (by omega)]
      exact Int.le_of_lt (belowN_lt (by omega))
    · show G.held.take (belowN G.held k) = _
      rw [e1, h.held, List.drop_take]
      congr 1; omega
    · show G.out = _
      rw [e1, h.out, List.take_take]
      congr 2; omega
end
end Go.Proofs.Ytkkbpcnoamagcaa
