/- The plain law of a cache that stays right: a line put, used, dropped. -/
import Derived.Test.YtdndanjabknjpaaAB
namespace Go.Proofs.Ytdndanjabknjpaa
open Go.RowKit Go.Lib
set_option linter.unusedVariables false

/-- All sets but one. -/
def restC (ls : List (List Ln)) (s : Nat) : List Ln := (ls.take s).flatten ++ (ls.drop (s + 1)).flatten
theorem flat_rest {ls : List (List Ln)} {s : Nat} (hs : s < ls.length) : ls.flatten.Perm (ls[s]! ++ restC ls s) := by
  have h : ls = ls.take s ++ ls[s]! :: ls.drop (s + 1) := by
    rw [getElem!_pos ls s hs, List.getElem_cons_drop, List.take_append_drop]
  have h2 : ls.flatten = (ls.take s).flatten ++ (ls[s]! ++ (ls.drop (s + 1)).flatten) := by
    conv => lhs; rw [h]
    rw [List.flatten_append, List.flatten_cons]
  rw [h2]
  unfold restC
  exact List.perm_append_comm_assoc _ _ _
theorem rest_set {ls : List (List Ln)} {s : Nat} (l : List Ln) : restC (ls.set s l) s = restC ls s := by
  unfold restC
  rw [List.take_set_of_le (Nat.le_refl _), List.drop_set_of_lt (Nat.lt_succ_self _)]
theorem flat_set_rest {ls : List (List Ln)} {s : Nat} (hs : s < ls.length) (l : List Ln) : (ls.set s l).flatten.Perm (l ++ restC ls s) := by
  have := flat_rest (ls := ls.set s l) (s := s) (by rw [List.length_set]; exact hs)
  rwa [setSelf ls s l hs, rest_set] at this
theorem mem_rest {ls : List (List Ln)} {s : Nat} {y : Ln} (h : y ∈ restC ls s) : ∃ j, j < ls.length ∧ j ≠ s ∧ y ∈ ls[j]! := by
  unfold restC at h
  rw [List.mem_append] at h
  rcases h with h | h
  · obtain ⟨l, hl, hy⟩ := List.mem_flatten.1 h
    obtain ⟨j, hj, rfl⟩ := List.getElem_of_mem hl
    rw [List.length_take] at hj
    rw [List.getElem_take] at hy
    exact ⟨j, by omega, by omega, by rw [getElem!_pos ls j (by omega)]; exact hy⟩
  · obtain ⟨l, hl, hy⟩ := List.mem_flatten.1 h
    obtain ⟨j, hj, rfl⟩ := List.getElem_of_mem hl
    rw [List.length_drop] at hj
    rw [List.getElem_drop] at hy
    exact ⟨s + 1 + j, by omega, by omega, by rw [getElem!_pos ls (s + 1 + j) (by omega)]; exact hy⟩
/-- A line of a set stands where it may. -/
theorem RightC.line {x : Ca} (h : RightC x) {s : Nat} (hs : s < x.lines.length) {y : Ln} (hy : y ∈ x.lines[s]!) : okLine x s y := by
  obtain ⟨i, hi, rfl⟩ := List.getElem_of_mem hy
  have := (h.sets s hs).2 i hi
  rwa [getElem!_pos x.lines[s]! i hi] at this
theorem RightC.used_le {x : Ca} (h : RightC x) {y : Ln} (hy : y ∈ x.lines.flatten) : 1 ≤ y.used ∧ y.used ≤ x.clock := by
  obtain ⟨l, hl, hy⟩ := List.mem_flatten.1 hy
  obtain ⟨j, hj, rfl⟩ := List.getElem_of_mem hl
  rw [← getElem!_pos x.lines j hj] at hy
  exact (h.line hj hy).2.2.2.2
theorem mem_flat_set {ls : List (List Ln)} {s : Nat} (hs : s < ls.length) {y : Ln} (hy : y ∈ ls[s]!) : y ∈ ls.flatten :=
  (flat_rest hs).mem_iff.2 (List.mem_append_left _ hy)
/-- A set of a cache that is right is set anew: it is right. -/
theorem right_set {x : Ca} (h : RightC x) {s : Nat} (hs : s < x.lines.length) {clk : Int} (hc : x.clock ≤ clk) (hm : clk ≤ 1099511627776) {l : List Ln}
    (hl : (l.length : Int) ≤ x.ways) (hok : ∀ y ∈ l, okLine ⟨x.sets, x.ways, clk, x.lines⟩ s y) (ha : (l.map Ln.addr).Nodup) (hu : (l.map Ln.used).Nodup) (hur : ∀ y ∈ l, ∀ z ∈ restC x.lines s, y.used ≠ z.used) :
    RightC ⟨x.sets, x.ways, clk, x.lines.set s l⟩ := by
  have hf := h.formed
  simp only [formedB, decide_eq_true_eq] at hf
  obtain ⟨f1, f2, f3, f4, f5, f6, f7⟩ := hf
  have hpo := flat_rest hs
  have hpn := flat_set_rest hs l
  have hna := hpo.map Ln.addr |>.nodup_iff.1 h.addrs
  have hnu := hpo.map Ln.used |>.nodup_iff.1 h.uses
  rw [List.map_append, List.nodup_append] at hna hnu
  refine ⟨?_, fun j hj => ?_, ?_, ?_⟩
  · simp only [formedB, decide_eq_true_eq, List.length_set]
    omega
  · have hj2 : j < x.lines.length := by simpa using hj
    show (((x.lines.set s l)[j]!.length : Nat) : Int) ≤ x.ways ∧ ∀ i, i < (x.lines.set s l)[j]!.length → okLine _ j (x.lines.set s l)[j]![i]!
    rw [setGet]
    by_cases hjs : s = j
    · subst hjs
      rw [if_pos ⟨rfl, hj2⟩]
      exact ⟨hl, fun i hi => by rw [getElem!_pos l i hi]; exact hok _ (List.getElem_mem _)⟩
    · rw [if_neg (fun e => hjs e.1)]
      obtain ⟨g1, g2⟩ := h.sets j hj2
      refine ⟨g1, fun i hi => ?_⟩
      obtain ⟨a1, a2, a3, a4, a5, a6⟩ := g2 i hi
      exact ⟨a1, a2, a3, a4, a5, Int.le_trans a6 hc⟩
  · refine (hpn.map Ln.addr).nodup_iff.2 ?_
    rw [List.map_append, List.nodup_append]
    refine ⟨ha, hna.2.1, fun a h1 b h2 e => ?_⟩
    obtain ⟨y, hy, rfl⟩ := List.mem_map.1 h1
    obtain ⟨z, hz, rfl⟩ := List.mem_map.1 h2
    obtain ⟨j, hj, hjs, hzj⟩ := mem_rest hz
    have g1 := (hok y hy).2.1
    have g2 := (h.line hj hzj).2.1
    rw [e] at g1
    have g1' : z.addr.tmod x.sets = (s : Int) := g1
    rw [g1'] at g2
    omega
  · refine (hpn.map Ln.used).nodup_iff.2 ?_
    rw [List.map_append, List.nodup_append]
    refine ⟨hu, hnu.2.1, fun a h1 b h2 e => ?_⟩
    obtain ⟨y, hy, rfl⟩ := List.mem_map.1 h1
    obtain ⟨z, hz, rfl⟩ := List.mem_map.1 h2
    exact hur y hy z hz e
theorem RightC.nodupA {x : Ca} (h : RightC x) {s : Nat} (hs : s < x.lines.length) : (x.lines[s]!.map Ln.addr).Nodup := by
  have := (flat_rest hs).map Ln.addr |>.nodup_iff.1 h.addrs
  rw [List.map_append, List.nodup_append] at this
  exact this.1
theorem RightC.nodupU {x : Ca} (h : RightC x) {s : Nat} (hs : s < x.lines.length) : (x.lines[s]!.map Ln.used).Nodup := by
  have := (flat_rest hs).map Ln.used |>.nodup_iff.1 h.uses
  rw [List.map_append, List.nodup_append] at this
  exact this.1
theorem RightC.apartU {x : Ca} (h : RightC x) {s : Nat} (hs : s < x.lines.length) : ∀ y ∈ x.lines[s]!, ∀ z ∈ restC x.lines s, y.used ≠ z.used := by
  have := (flat_rest hs).map Ln.used |>.nodup_iff.1 h.uses
  rw [List.map_append, List.nodup_append] at this
  exact fun y hy z hz => this.2.2 _ (List.mem_map_of_mem hy) _ (List.mem_map_of_mem hz)
theorem rest_used {x : Ca} (h : RightC x) {s : Nat} {z : Ln} (hz : z ∈ restC x.lines s) : z.used ≤ x.clock := by
  obtain ⟨j, hj, _, hzj⟩ := mem_rest hz
  exact (h.line hj hzj).2.2.2.2.2
/-- A sublist of a set, and a new line of it. -/
theorem right_grow {x : Ca} (h : RightC x) {s : Nat} (hs : s < x.lines.length) (hm : x.clock < 1099511627776) {l : List Ln} (hsub : l.Sublist x.lines[s]!) (hlen : (l.length : Int) < x.ways)
    {t st v : Int} (ht : 0 ≤ t) (hts : t.tmod x.sets = (s : Int)) (hst : 1 ≤ st ∧ st ≤ 4) (hno : ∀ y ∈ l, y.addr ≠ t) : RightC ⟨x.sets, x.ways, x.clock + 1, x.lines.set s (l ++ [⟨t, st, v, x.clock + 1⟩])⟩ := by
  refine right_set h hs (by omega) (by omega) ?_ (fun y hy => ?_) ?_ ?_ (fun y hy z hz => ?_)
  · rw [List.length_append]; simp; omega
  · rcases List.mem_append.1 hy with hy | hy
    · obtain ⟨a1, a2, a3, a4, a5, a6⟩ := h.line hs (hsub.subset hy)
      exact ⟨a1, a2, a3, a4, a5, by show y.used ≤ x.clock + 1; omega⟩
    · obtain rfl : y = ⟨t, st, v, x.clock + 1⟩ := by simpa using hy
      have := (right_facts (decide_eq_true h)).2.2.2.2.1
      exact ⟨ht, hts, hst.1, hst.2, by show 1 ≤ x.clock + 1; omega, Int.le_refl _⟩
  · rw [List.map_append, List.nodup_append]
    refine ⟨(hsub.map Ln.addr).nodup (h.nodupA hs), by simp, fun a h1 b h2 e => ?_⟩
    obtain ⟨y, hy, rfl⟩ := List.mem_map.1 h1
    have : b = t := by simpa using h2
    exact hno y hy (e.trans this)
  · rw [List.map_append, List.nodup_append]
    refine ⟨(hsub.map Ln.used).nodup (h.nodupU hs), by simp, fun a h1 b h2 e => ?_⟩
    obtain ⟨y, hy, rfl⟩ := List.mem_map.1 h1
    have e2 : b = x.clock + 1 := by simpa using h2
    have := (h.line hs (hsub.subset hy)).2.2.2.2.2
    omega
  · have hzu := rest_used h hz
    rcases List.mem_append.1 hy with hy | hy
    · exact h.apartU hs y (hsub.subset hy) z hz
    · obtain rfl : y = ⟨t, st, v, x.clock + 1⟩ := by simpa using hy
      show x.clock + 1 ≠ z.used
      omega
theorem nodup_set {l : List Int} (h : l.Nodup) {a : Int} (ha : a ∉ l) : ∀ k, (l.set k a).Nodup := by
  induction l with
  | nil => intro k; simp
  | cons b l ih =>
    intro k
    rw [List.nodup_cons] at h
    cases k with
    | zero => rw [List.set_cons_zero, List.nodup_cons]; exact ⟨fun hx => ha (List.mem_cons_of_mem _ hx), h.2⟩
    | succ k =>
      rw [List.set_cons_succ, List.nodup_cons]
      refine ⟨fun hx => ?_, ih h.2 (fun hx => ha (List.mem_cons_of_mem _ hx)) k⟩
      rcases List.mem_or_eq_of_mem_set hx with hx | hx
      · exact h.1 hx
      · exact ha (by rw [← hx]; exact List.mem_cons_self)
/-- A line of a set is written anew. -/
theorem right_turn {x : Ca} (h : RightC x) {s : Nat} (hs : s < x.lines.length) (hm : x.clock < 1099511627776) {k : Nat} (hk : k < x.lines[s]!.length) {st v : Int} (hst : 1 ≤ st ∧ st ≤ 4) :
    RightC ⟨x.sets, x.ways, x.clock + 1, x.lines.set s (x.lines[s]!.set k ⟨x.lines[s]![k]!.addr, st, v, x.clock + 1⟩)⟩ := by
  have hin : x.lines[s]![k]! ∈ x.lines[s]! := by rw [getElem!_pos x.lines[s]! k hk]; exact List.getElem_mem _
  have hmem : ∀ y, y ∈ x.lines[s]!.set k ⟨x.lines[s]![k]!.addr, st, v, x.clock + 1⟩ → y = ⟨x.lines[s]![k]!.addr, st, v, x.clock + 1⟩ ∨ y ∈ x.lines[s]! := fun y hy => (List.mem_or_eq_of_mem_set hy).symm
  refine right_set h hs (by omega) (by omega) ?_ (fun y hy => ?_) ?_ ?_ (fun y hy z hz => ?_)
  · rw [List.length_set]; exact (h.sets s hs).1
  · obtain ⟨b1, b2, b3, b4, b5, b6⟩ := h.line hs hin
    rcases hmem y hy with rfl | hy
    · exact ⟨b1, b2, hst.1, hst.2, by show 1 ≤ x.clock + 1; omega, Int.le_refl _⟩
    · obtain ⟨a1, a2, a3, a4, a5, a6⟩ := h.line hs hy
      exact ⟨a1, a2, a3, a4, a5, by show y.used ≤ x.clock + 1; omega⟩
  · have e : (x.lines[s]!.set k ⟨x.lines[s]![k]!.addr, st, v, x.clock + 1⟩).map Ln.addr = x.lines[s]!.map Ln.addr := by
      refine List.ext_getElem (by simp) fun i h1 h2 => ?_
      rw [List.getElem_map, List.getElem_map, List.getElem_set]
      split
      · rename_i e
        subst e
        rw [getElem!_pos x.lines[s]! k hk]
      · rfl
    rw [e]; exact h.nodupA hs
  · have hn := h.nodupU hs
    rw [List.map_set]
    have hfresh : x.clock + 1 ∉ x.lines[s]!.map Ln.used := fun hx => by
      obtain ⟨y, hy, e⟩ := List.mem_map.1 hx
      have := (h.line hs hy).2.2.2.2.2
      omega
    exact nodup_set hn hfresh k
  · have hzu := rest_used h hz
    rcases hmem y hy with rfl | hy
    · show x.clock + 1 ≠ z.used
      omega
    · exact h.apartU hs y hy z hz
theorem rightC_iff {x : Ca} : rightC x = true ↔ RightC x := ⟨of_decide_eq_true, fun h => decide_eq_true h⟩
/-- What Put does, by its three ways. -/
theorem put_ways {x : Ca} {t st v : Int} (h : mayC x t = true) (hst : 1 ≤ st ∧ st ≤ 4) : ∃ s : Nat, t.tmod x.sets = (s : Int) ∧ s < x.lines.length ∧
    ((∃ k, k < x.lines[s]!.length ∧ x.lines[s]![k]!.addr = t ∧ putC x t st v = (⟨x.sets, x.ways, x.clock + 1, x.lines.set s (x.lines[s]!.set k ⟨t, st, v, x.clock + 1⟩)⟩, zeroL, 0)) ∨
     ((∀ y ∈ x.lines[s]!, y.addr ≠ t) ∧ (x.lines[s]!.length : Int) ≠ x.ways ∧ putC x t st v = (⟨x.sets, x.ways, x.clock + 1, x.lines.set s (x.lines[s]! ++ [⟨t, st, v, x.clock + 1⟩])⟩, zeroL, 0)) ∨
     ((∀ y ∈ x.lines[s]!, y.addr ≠ t) ∧ (x.lines[s]!.length : Int) = x.ways ∧ putC x t st v = (⟨x.sets, x.ways, x.clock + 1, x.lines.set s (x.lines[s]!.filter (fun y => !decide (y = minD x.lines[s]!)) ++ [⟨t, st, v, x.clock + 1⟩])⟩, minD x.lines[s]!, 0))) := by
  obtain ⟨hr, ht, hclk⟩ := may_facts h
  obtain ⟨s, hs, hsl, h0⟩ := set_of hr ht
  have hP : putC x t st v = (if idxA x.lines[s]! t < 0 then (⟨x.sets, x.ways, x.clock + 1, x.lines.set s ((pushC x x.lines[s]!).1 ++ [⟨t, st, v, x.clock + 1⟩])⟩, (pushC x x.lines[s]!).2, 0)
      else (⟨x.sets, x.ways, x.clock + 1, x.lines.set s (x.lines[s]!.set (idxA x.lines[s]! t).toNat ⟨t, st, v, x.clock + 1⟩)⟩, zeroL, 0)) := by
    unfold putC setOf
    rw [if_pos ⟨h, hst.1, hst.2⟩, hs, Int.toNat_natCast]
  refine ⟨s, hs, hsl, ?_⟩
  rcases idxA_cases x.lines[s]! t with ⟨hi, hno⟩ | ⟨k, hk, hi, hka, _⟩
  · right
    have hno2 : ∀ y ∈ x.lines[s]!, y.addr ≠ t := fun y hy e => by
      obtain ⟨j, hj, rfl⟩ := List.getElem_of_mem hy
      have := hno j hj
      rw [getElem!_pos x.lines[s]! j hj] at this
      exact of_decide_eq_false this e
    rw [hi, if_pos (by omega)] at hP
    by_cases hw : (x.lines[s]!.length : Int) = x.ways
    · right
      unfold pushC at hP
      rw [if_pos hw] at hP
      exact ⟨hno2, hw, hP⟩
    · left
      unfold pushC at hP
      rw [if_neg hw] at hP
      exact ⟨hno2, hw, hP⟩
  · left
    rw [hi, if_neg (by omega), Int.toNat_natCast] at hP
    exact ⟨k, hk, hka, hP⟩
theorem filter_len {l : List Ln} (hl : 0 < l.length) : (l.filter fun y => !decide (y = minD l)).length < l.length := by
  have hm := minD_mem hl
  generalize minD l = z at *
  clear hl
  induction l with
  | nil => cases hm
  | cons y l ih =>
    rw [List.filter_cons]
    by_cases e : y = z
    · subst e
      have := List.length_filter_le (fun z => !decide (z = y)) l
      simp
      omega
    · have hm2 : z ∈ l := by
        rcases List.mem_cons.1 hm with h | h
        · exact absurd h.symm e
        · exact h
      have := ih hm2
      simp [e]
      exact by simpa using this
theorem right_put {x : Ca} {t st v : Int} (h : mayC x t = true) (hst : 1 ≤ st ∧ st ≤ 4) : rightC (putC x t st v).1 = true ∧ (putC x t st v).2.2 = 0 := by
  obtain ⟨hr, ht, hclk⟩ := may_facts h
  have hR := rightC_iff.1 hr
  obtain ⟨f1, f2, f3, f4, f5, f6, f7⟩ := right_facts hr
  obtain ⟨s, hs, hsl, h3⟩ := put_ways (v := v) h hst
  rcases h3 with ⟨k, hk, hka, e⟩ | ⟨hno, hw, e⟩ | ⟨hno, hw, e⟩
  · rw [e]
    refine ⟨rightC_iff.2 ?_, rfl⟩
    have := right_turn (v := v) hR hsl hclk hk hst
    rw [hka] at this
    exact this
  · rw [e]
    have hlw := (hR.sets s hsl).1
    exact ⟨rightC_iff.2 (right_grow hR hsl hclk (List.Sublist.refl _) (by omega) ht hs hst hno), rfl⟩
  · rw [e]
    have := filter_len (l := x.lines[s]!) (by omega)
    exact ⟨rightC_iff.2 (right_grow hR hsl hclk List.filter_sublist (by omega) ht hs hst (fun y hy => hno y (List.mem_filter.1 hy).1)), rfl⟩
theorem WfC.mem {x : Ca} : WfC x ↔ ∀ s, s < x.lines.length → ∀ y ∈ x.lines[s]!, (Lit.int .i64 y.addr).wf = true := by
  refine ⟨fun h s hs y hy => ?_, fun h s i hs hi => ?_⟩
  · obtain ⟨i, hi, rfl⟩ := List.getElem_of_mem hy
    have := h s i hs hi
    rwa [getElem!_pos x.lines[s]! i hi] at this
  · rw [getElem!_pos x.lines[s]! i hi]
    exact h s hs _ (List.getElem_mem _)
theorem WfC.set {x : Ca} (h : WfC x) {s : Nat} {l : List Ln} {a b c : Int} (hl : ∀ y ∈ l, (Lit.int .i64 y.addr).wf = true) : WfC ⟨a, b, c, x.lines.set s l⟩ := by
  rw [WfC.mem] at *
  intro j hj y hy
  have hj2 : j < x.lines.length := by simpa using hj
  have hy2 : y ∈ (x.lines.set s l)[j]! := hy
  rw [setGet] at hy2
  by_cases e : s = j ∧ j < x.lines.length
  · rw [if_pos e] at hy2; exact hl y hy2
  · rw [if_neg e] at hy2; exact h j hj2 y hy2
theorem wf_put {x : Ca} {t st v : Int} (hw : WfC x) (ht : (Lit.int .i64 t).wf = true) : WfC (putC x t st v).1 := by
  by_cases h : mayC x t = true ∧ 1 ≤ st ∧ st ≤ 4
  · obtain ⟨s, hs, hsl, h3⟩ := put_ways (v := v) h.1 h.2
    have hl := WfC.mem.1 hw s hsl
    rcases h3 with ⟨k, hk, hka, e⟩ | ⟨hno, hww, e⟩ | ⟨hno, hww, e⟩
    · rw [e]
      refine hw.set fun y hy => ?_
      rcases List.mem_or_eq_of_mem_set hy with hy | rfl
      · exact hl y hy
      · exact ht
    · rw [e]
      refine hw.set fun y hy => ?_
      rcases List.mem_append.1 hy with hy | hy
      · exact hl y hy
      · obtain rfl : y = _ := by simpa using hy
        exact ht
    · rw [e]
      refine hw.set fun y hy => ?_
      rcases List.mem_append.1 hy with hy | hy
      · exact hl y (List.mem_filter.1 hy).1
      · obtain rfl : y = _ := by simpa using hy
        exact ht
  · unfold putC
    rw [if_neg h]
    exact hw
end Go.Proofs.Ytdndanjabknjpaa
