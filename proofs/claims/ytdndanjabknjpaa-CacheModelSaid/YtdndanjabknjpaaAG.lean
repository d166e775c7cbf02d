/- The plain law of CacheModel: what a cache has, as it is put, used and dropped. -/
import Derived.Test.YtdndanjabknjpaaAD
namespace Go.Proofs.Ytdndanjabknjpaa
open Go.RowKit Go.Lib
set_option linter.unusedVariables false

/-- What Use does, by its ways. -/
theorem use_ways {x : Ca} {t : Int} (h : mayC x t = true) : ∃ s : Nat, t.tmod x.sets = (s : Int) ∧ s < x.lines.length ∧
    ((∃ k, k < x.lines[s]!.length ∧ x.lines[s]![k]!.addr = t ∧ useC x t = (usedC x s k, 0)) ∨ ((∀ y ∈ x.lines[s]!, y.addr ≠ t) ∧ useC x t = (x, 7))) := by
  obtain ⟨hr, ht, hclk⟩ := may_facts h
  obtain ⟨s, hs, hsl, h0⟩ := set_of hr ht
  have hP : useC x t = if idxA x.lines[s]! t < 0 then (x, 7) else (usedC x s (idxA x.lines[s]! t).toNat, 0) := by
    unfold useC setOf
    rw [if_pos h, hs, Int.toNat_natCast]
  refine ⟨s, hs, hsl, ?_⟩
  rcases idxA_cases x.lines[s]! t with ⟨hi, hno⟩ | ⟨k, hk, hi, hka, _⟩
  · right
    rw [hi, if_pos (by omega)] at hP
    refine ⟨fun y hy e => ?_, hP⟩
    obtain ⟨j, hj, rfl⟩ := List.getElem_of_mem hy
    have := hno j hj
    rw [getElem!_pos x.lines[s]! j hj] at this
    exact of_decide_eq_false this e
  · left
    rw [hi, if_neg (by omega), Int.toNat_natCast] at hP
    exact ⟨k, hk, hka, hP⟩
/-- What Drop does, by its ways. -/
theorem drop_ways {x : Ca} {t : Int} (hr : rightC x = true) (ht : 0 ≤ t) : ∃ s : Nat, t.tmod x.sets = (s : Int) ∧ s < x.lines.length ∧
    ((∃ k, k < x.lines[s]!.length ∧ x.lines[s]![k]!.addr = t ∧ dropC x t = (⟨x.sets, x.ways, x.clock, x.lines.set s (x.lines[s]!.eraseIdx k)⟩, 0)) ∨ ((∀ y ∈ x.lines[s]!, y.addr ≠ t) ∧ dropC x t = (x, 7))) := by
  obtain ⟨s, hs, hsl, h0⟩ := set_of hr ht
  have hP : dropC x t = if idxA x.lines[s]! t < 0 then (x, 7) else (⟨x.sets, x.ways, x.clock, x.lines.set s (x.lines[s]!.eraseIdx (idxA x.lines[s]! t).toNat)⟩, 0) := by
    unfold dropC setOf
    rw [if_pos ⟨hr, ht⟩, hs, Int.toNat_natCast]
  refine ⟨s, hs, hsl, ?_⟩
  rcases idxA_cases x.lines[s]! t with ⟨hi, hno⟩ | ⟨k, hk, hi, hka, _⟩
  · right
    rw [hi, if_pos (by omega)] at hP
    refine ⟨fun y hy e => ?_, hP⟩
    obtain ⟨j, hj, rfl⟩ := List.getElem_of_mem hy
    have := hno j hj
    rw [getElem!_pos x.lines[s]! j hj] at this
    exact of_decide_eq_false this e
  · left
    rw [hi, if_neg (by omega), Int.toNat_natCast] at hP
    exact ⟨k, hk, hka, hP⟩
theorem right_usedC {x : Ca} (h : RightC x) {s : Nat} (hs : s < x.lines.length) (hm : x.clock < 1099511627776) {k : Nat} (hk : k < x.lines[s]!.length) : RightC (usedC x s k) := by
  have hin : x.lines[s]![k]! ∈ x.lines[s]! := by rw [getElem!_pos x.lines[s]! k hk]; exact List.getElem_mem _
  have hl := h.line hs hin
  exact right_turn h hs hm hk ⟨hl.2.2.1, hl.2.2.2.1⟩
theorem right_drop {x : Ca} (h : RightC x) {s : Nat} (hs : s < x.lines.length) (k : Nat) : RightC ⟨x.sets, x.ways, x.clock, x.lines.set s (x.lines[s]!.eraseIdx k)⟩ := by
  have hsub : (x.lines[s]!.eraseIdx k).Sublist x.lines[s]! := List.eraseIdx_sublist _ _
  have hf := right_facts (rightC_iff.2 h)
  refine right_set h hs (Int.le_refl _) hf.2.2.2.2.2.1 ?_ (fun y hy => h.line hs (hsub.subset hy)) ((hsub.map Ln.addr).nodup (h.nodupA hs)) ((hsub.map Ln.used).nodup (h.nodupU hs)) (fun y hy z hz => h.apartU hs y (hsub.subset hy) z hz)
  have := hsub.length_le
  have := (h.sets s hs).1
  omega
/-- Where CacheModel stands: which addresses are there, what they have, when they were used. -/
structure MInv (n m i : Nat) (x : Ca) (th : Nat → Bool) (va la : Nat → Int) : Prop where
  sets : x.sets = (n : Int)
  ways : x.ways = (m : Int)
  clock : x.clock ≤ (i : Int)
  right : rightC x = true
  wf : WfC x
  num : x.lines.length = n
  small : ∀ y ∈ x.lines.flatten, y.addr ≤ 255
  has : ∀ a, a < 256 → (th a = true ↔ ∃ y ∈ x.lines.flatten, y.addr = (a : Int))
  vals : ∀ y ∈ x.lines.flatten, y.val_ = va y.addr.toNat
  order : ∀ y ∈ x.lines.flatten, ∀ z ∈ x.lines.flatten, y.used ≤ z.used → la y.addr.toNat ≤ la z.addr.toNat
  late : ∀ a, la a ≤ (i : Int)
theorem mem_set_flat {ls : List (List Ln)} {s : Nat} (hs : s < ls.length) {l : List Ln} {y : Ln} : y ∈ (ls.set s l).flatten ↔ y ∈ l ∨ y ∈ restC ls s := by
  rw [(flat_set_rest hs l).mem_iff, List.mem_append]
theorem mem_flat_rest {ls : List (List Ln)} {s : Nat} (hs : s < ls.length) {y : Ln} : y ∈ ls.flatten ↔ y ∈ ls[s]! ∨ y ∈ restC ls s := by
  rw [(flat_rest hs).mem_iff, List.mem_append]
theorem RightC.at_ {x : Ca} (h : RightC x) {y : Ln} (hy : y ∈ x.lines.flatten) : 0 ≤ y.addr ∧ ∃ j, j < x.lines.length ∧ y.addr.tmod x.sets = (j : Int) ∧ y ∈ x.lines[j]! := by
  obtain ⟨l, hl, hyl⟩ := List.mem_flatten.1 hy
  obtain ⟨j, hj, rfl⟩ := List.getElem_of_mem hl
  rw [← getElem!_pos x.lines j hj] at hyl
  have := h.line hj hyl
  exact ⟨this.1, j, hj, this.2.1, hyl⟩
theorem RightC.rest_ne {x : Ca} (h : RightC x) {s : Nat} {t : Int} (hts : t.tmod x.sets = (s : Int)) {y : Ln} (hy : y ∈ restC x.lines s) : y.addr ≠ t := by
  obtain ⟨j, hj, hjs, hyj⟩ := mem_rest hy
  have := (h.line hj hyj).2.1
  rintro rfl
  rw [hts] at this
  omega
def upd {α : Type} (f : Nat → α) (a : Nat) (v : α) : Nat → α := fun j => if j = a then v else f j
theorem upd_same {α : Type} (f : Nat → α) (a : Nat) (v : α) : upd f a v a = v := by unfold upd; rw [if_pos rfl]
theorem upd_other {α : Type} (f : Nat → α) {a b : Nat} (v : α) (h : b ≠ a) : upd f a v b = f b := by unfold upd; rw [if_neg h]
theorem MInv.mono {n m i : Nat} {x : Ca} {th : Nat → Bool} {va la : Nat → Int} (h : MInv n m i x th va la) : MInv n m (i + 1) x th va la :=
  ⟨h.sets, h.ways, by have := h.clock; omega, h.right, h.wf, h.num, h.small, h.has, h.vals, h.order, fun a => by have := h.late a; omega⟩
/-- A line is written anew, or a new one. -/
theorem MInv.touch {n m i t : Nat} {x x' : Ca} {th th' : Nat → Bool} {va la : Nat → Int} {st v : Int} (h : MInv n m i x th va la) (ht : t < 256)
    (hs : x'.sets = x.sets) (hw : x'.ways = x.ways) (hc : x'.clock = x.clock + 1) (hr : rightC x' = true) (hwf : WfC x') (hn : x'.lines.length = n)
    (h1 : ∀ y ∈ x'.lines.flatten, y = ⟨t, st, v, x.clock + 1⟩ ∨ (y ∈ x.lines.flatten ∧ y.addr ≠ (t : Int))) (h2 : (⟨t, st, v, x.clock + 1⟩ : Ln) ∈ x'.lines.flatten)
    (h3 : ∀ a, a < 256 → a ≠ t → (th' a = true ↔ ∃ y ∈ x'.lines.flatten, y.addr = (a : Int))) (h4 : th' t = true) : MInv n m (i + 1) x' th' (upd va t v) (upd la t ((i : Int) + 1)) := by
  have hR := rightC_iff.1 h.right
  have hne : ∀ y ∈ x.lines.flatten, y.addr ≠ (t : Int) → y.addr.toNat ≠ t := fun y hy e => by
    have := (hR.at_ hy).1
    omega
  refine ⟨hs.trans h.sets, hw.trans h.ways, by have := h.clock; rw [hc]; omega, hr, hwf, hn, fun y hy => ?_, fun a ha => ?_, fun y hy => ?_, fun y hy z hz hyz => ?_, fun a => ?_⟩
  · rcases h1 y hy with rfl | ⟨hy, _⟩
    · show (t : Int) ≤ 255
      omega
    · exact h.small y hy
  · by_cases e : a = t
    · subst e
      exact ⟨fun _ => ⟨_, h2, rfl⟩, fun _ => h4⟩
    · exact h3 a ha e
  · rcases h1 y hy with rfl | ⟨hy, e⟩
    · show v = upd va t v (t : Int).toNat
      rw [Int.toNat_natCast, upd_same]
    · rw [upd_other _ _ (hne y hy e)]
      exact h.vals y hy
  · rcases h1 y hy with rfl | ⟨hy, e⟩
    · rcases h1 z hz with rfl | ⟨hz, e2⟩
      · exact Int.le_refl _
      · exfalso
        have := (hR.used_le hz).2
        have h5 : x.clock + 1 ≤ z.used := hyz
        omega
    · rw [upd_other _ _ (hne y hy e)]
      rcases h1 z hz with rfl | ⟨hz, e2⟩
      · show la y.addr.toNat ≤ upd la t ((i : Int) + 1) (t : Int).toNat
        rw [Int.toNat_natCast, upd_same]
        have := h.late y.addr.toNat
        omega
      · rw [upd_other _ _ (hne z hz e2)]
        exact h.order y hy z hz hyz
  · by_cases e : a = t
    · subst e; rw [upd_same]; omega
    · rw [upd_other _ _ e]
      have := h.late a
      omega
theorem set_mem {l : List Ln} (hnd : (l.map Ln.addr).Nodup) {k : Nat} (hk : k < l.length) {y' y : Ln} : y ∈ l.set k y' ↔ y = y' ∨ (y ∈ l ∧ y.addr ≠ l[k]!.addr) := by
  have hL : l = l.take k ++ l[k]! :: l.drop (k + 1) := by
    rw [getElem!_pos l k hk, List.getElem_cons_drop, List.take_append_drop]
  have hset : l.set k y' = l.take k ++ y' :: l.drop (k + 1) := by rw [List.set_eq_take_append_cons_drop, if_pos hk]
  have hnd2 : ((l.take k).map Ln.addr ++ l[k]!.addr :: (l.drop (k + 1)).map Ln.addr).Nodup := by
    rw [hL, List.map_append, List.map_cons] at hnd
    exact hnd
  rw [List.nodup_append, List.nodup_cons] at hnd2
  have a1 : ∀ y ∈ l.take k, y.addr ≠ l[k]!.addr := fun y hy => hnd2.2.2 _ (List.mem_map_of_mem hy) _ List.mem_cons_self
  have a2 : ∀ y ∈ l.drop (k + 1), y.addr ≠ l[k]!.addr := fun y hy e => hnd2.2.1.1 (by rw [← e]; exact List.mem_map_of_mem hy)
  rw [hset, List.mem_append, List.mem_cons]
  constructor
  · rintro (h | h | h)
    · exact .inr ⟨List.mem_of_mem_take h, a1 y h⟩
    · exact .inl h
    · exact .inr ⟨List.mem_of_mem_drop h, a2 y h⟩
  · rintro (h | ⟨h, e⟩)
    · exact .inr (.inl h)
    · rw [hL, List.mem_append, List.mem_cons] at h
      rcases h with h | h | h
      · exact .inl h
      · exact absurd (by rw [h]) e
      · exact .inr (.inr h)
theorem erase_mem {l : List Ln} (hnd : (l.map Ln.addr).Nodup) {k : Nat} (hk : k < l.length) {y : Ln} : y ∈ l.eraseIdx k ↔ y ∈ l ∧ y.addr ≠ l[k]!.addr := by
  have hL : l = l.take k ++ l[k]! :: l.drop (k + 1) := by
    rw [getElem!_pos l k hk, List.getElem_cons_drop, List.take_append_drop]
  have hnd2 : ((l.take k).map Ln.addr ++ l[k]!.addr :: (l.drop (k + 1)).map Ln.addr).Nodup := by
    rw [hL, List.map_append, List.map_cons] at hnd
    exact hnd
  rw [List.nodup_append, List.nodup_cons] at hnd2
  have a1 : ∀ y ∈ l.take k, y.addr ≠ l[k]!.addr := fun y hy => hnd2.2.2 _ (List.mem_map_of_mem hy) _ List.mem_cons_self
  have a2 : ∀ y ∈ l.drop (k + 1), y.addr ≠ l[k]!.addr := fun y hy e => hnd2.2.1.1 (by rw [← e]; exact List.mem_map_of_mem hy)
  rw [List.eraseIdx_eq_take_drop_succ, List.mem_append]
  constructor
  · rintro (h | h)
    · exact ⟨List.mem_of_mem_take h, a1 y h⟩
    · exact ⟨List.mem_of_mem_drop h, a2 y h⟩
  · rintro ⟨h, e⟩
    rw [hL, List.mem_append, List.mem_cons] at h
    rcases h with h | h | h
    · exact .inl h
    · exact absurd (by rw [h]) e
    · exact .inr h
section
variable {n m i t : Nat} {x : Ca} {th : Nat → Bool} {va la : Nat → Int}
theorem MInv.may (h : MInv n m i x th va la) (hi : i ≤ 1000) : mayC x (t : Int) = true := by
  unfold mayC
  have := h.clock
  rw [h.right, decide_eq_true (by omega), decide_eq_true (by omega)]
  rfl
/-- A line of a set is written anew. -/
theorem MInv.turn (h : MInv n m i x th va la) (ht : t < 256) (hi : i ≤ 1000) {s k : Nat} (hs : s < x.lines.length) (hts : (t : Int).tmod x.sets = (s : Int)) (hk : k < x.lines[s]!.length) (hka : x.lines[s]![k]!.addr = (t : Int)) {st v : Int} (hst : 1 ≤ st ∧ st ≤ 4) :
    th t = true ∧ MInv n m (i + 1) ⟨x.sets, x.ways, x.clock + 1, x.lines.set s (x.lines[s]!.set k ⟨t, st, v, x.clock + 1⟩)⟩ th (upd va t v) (upd la t ((i : Int) + 1)) := by
  have hR := rightC_iff.1 h.right
  have hclk := h.clock
  have hin : x.lines[s]![k]! ∈ x.lines[s]! := by rw [getElem!_pos x.lines[s]! k hk]; exact List.getElem_mem _
  have hth : th t = true := (h.has t ht).2 ⟨_, mem_flat_set hs hin, hka⟩
  have hr2 := right_turn (v := v) hR hs (by omega) hk hst
  rw [hka] at hr2
  have hm : ∀ y, y ∈ (x.lines.set s (x.lines[s]!.set k ⟨t, st, v, x.clock + 1⟩)).flatten ↔ y = ⟨t, st, v, x.clock + 1⟩ ∨ (y ∈ x.lines.flatten ∧ y.addr ≠ (t : Int)) := fun y => by
    rw [mem_set_flat hs, set_mem (hR.nodupA hs) hk, hka, mem_flat_rest hs]
    constructor
    · rintro ((e | ⟨h1, h2⟩) | h3)
      · exact .inl e
      · exact .inr ⟨.inl h1, h2⟩
      · exact .inr ⟨.inr h3, hR.rest_ne hts h3⟩
    · rintro (e | ⟨h1 | h1, h2⟩)
      · exact .inl (.inl e)
      · exact .inl (.inr ⟨h1, h2⟩)
      · exact .inr h1
  refine ⟨hth, h.touch ht rfl rfl rfl (rightC_iff.2 hr2) ?_ (by simpa using h.num) (fun y hy => (hm y).1 hy) ((hm _).2 (.inl rfl)) (fun a ha hat => ?_) hth⟩
  · refine h.wf.set fun y hy => ?_
    rcases List.mem_or_eq_of_mem_set hy with hy | rfl
    · exact WfC.mem.1 h.wf s hs y hy
    · exact wf_int (by show (-9223372036854775808 : Int) ≤ (t : Int); omega) (by show (t : Int) ≤ 9223372036854775807; omega)
  · rw [h.has a ha]
    constructor
    · rintro ⟨y, hy, e⟩
      exact ⟨y, (hm y).2 (.inr ⟨hy, by rw [e]; omega⟩), e⟩
    · rintro ⟨y, hy, e⟩
      rcases (hm y).1 hy with rfl | ⟨hy, _⟩
      · exact absurd (show (t : Int) = (a : Int) from e) (by omega)
      · exact ⟨y, hy, e⟩
/-- A new line of a set, of which some may have gone. -/
theorem MInv.grow (h : MInv n m i x th va la) (ht : t < 256) (hi : i ≤ 1000) {s : Nat} (hs : s < x.lines.length) (hts : (t : Int).tmod x.sets = (s : Int)) {l : List Ln} (hsub : l.Sublist x.lines[s]!) (hlen : (l.length : Int) < x.ways) (hno : ∀ y ∈ l, y.addr ≠ (t : Int)) {st v : Int} (hst : 1 ≤ st ∧ st ≤ 4)
    {th' : Nat → Bool} (hD : ∀ a, a < 256 → a ≠ t → (th' a = true ↔ ∃ y, (y ∈ l ∨ y ∈ restC x.lines s) ∧ y.addr = (a : Int))) (h4 : th' t = true) :
    MInv n m (i + 1) ⟨x.sets, x.ways, x.clock + 1, x.lines.set s (l ++ [⟨t, st, v, x.clock + 1⟩])⟩ th' (upd va t v) (upd la t ((i : Int) + 1)) := by
  have hR := rightC_iff.1 h.right
  have hclk := h.clock
  have hr2 := right_grow (v := v) hR hs (by omega) hsub hlen (show (0 : Int) ≤ (t : Int) by omega) hts hst hno
  have hm : ∀ y, y ∈ (x.lines.set s (l ++ [⟨t, st, v, x.clock + 1⟩])).flatten ↔ y = ⟨t, st, v, x.clock + 1⟩ ∨ (y ∈ l ∨ y ∈ restC x.lines s) := fun y => by
    rw [mem_set_flat hs, List.mem_append, List.mem_singleton]
    constructor
    · rintro ((h1 | e) | h3)
      · exact .inr (.inl h1)
      · exact .inl e
      · exact .inr (.inr h3)
    · rintro (e | h1 | h3)
      · exact .inl (.inr e)
      · exact .inl (.inl h1)
      · exact .inr h3
  refine h.touch ht rfl rfl rfl (rightC_iff.2 hr2) ?_ (by simpa using h.num) (fun y hy => ?_) ((hm _).2 (.inl rfl)) (fun a ha hat => ?_) h4
  · refine h.wf.set fun y hy => ?_
    rcases List.mem_append.1 hy with hy | hy
    · exact WfC.mem.1 h.wf s hs y (hsub.subset hy)
    · obtain rfl : y = ⟨t, st, v, x.clock + 1⟩ := by simpa using hy
      exact wf_int (by show (-9223372036854775808 : Int) ≤ (t : Int); omega) (by show (t : Int) ≤ 9223372036854775807; omega)
  · rcases (hm y).1 hy with e | h1 | h1
    · exact .inl e
    · exact .inr ⟨(mem_flat_rest hs).2 (.inl (hsub.subset h1)), hno y h1⟩
    · exact .inr ⟨(mem_flat_rest hs).2 (.inr h1), hR.rest_ne hts h1⟩
  · rw [hD a ha hat]
    constructor
    · rintro ⟨y, hy, e⟩
      exact ⟨y, (hm y).2 (.inr hy), e⟩
    · rintro ⟨y, hy, e⟩
      rcases (hm y).1 hy with rfl | h1
      · exact absurd (show (t : Int) = (a : Int) from e) (by omega)
      · exact ⟨y, h1, e⟩
/-- What goes out. -/
theorem out_mem {l : List Ln} (hnd : (l.map Ln.addr).Nodup) {y : Ln} : y ∈ l.filter (fun y => !decide (y = minD l)) ↔ y ∈ l ∧ y ≠ minD l := by
  rw [List.mem_filter]
  simp
theorem addr_inj {l : List Ln} (hnd : (l.map Ln.addr).Nodup) {y z : Ln} (hy : y ∈ l) (hz : z ∈ l) (e : y.addr = z.addr) : y = z := by
  induction l with
  | nil => cases hy
  | cons b l ih =>
    rw [List.map_cons, List.nodup_cons] at hnd
    rcases List.mem_cons.1 hy with e1 | hy2
    · rcases List.mem_cons.1 hz with e2 | hz2
      · exact e1.trans e2.symm
      · exact absurd (by rw [← e1, e]; exact List.mem_map_of_mem hz2) hnd.1
    · rcases List.mem_cons.1 hz with e2 | hz2
      · exact absurd (by rw [← e2, ← e]; exact List.mem_map_of_mem hy2) hnd.1
      · exact ih hnd.2 hy2 hz2
theorem MInv.put (h : MInv n m i x th va la) (ht : t < 256) (hi : i ≤ 1000) {st v : Int} (hst : 1 ≤ st ∧ st ≤ 4) : (putC x t st v).2.2 = 0 ∧ ∃ s : Nat, (t : Int).tmod x.sets = (s : Int) ∧ s < x.lines.length ∧
    ((th t = true ∧ (putC x t st v).2.1 = zeroL ∧ MInv n m (i + 1) (putC x t st v).1 (upd th t true) (upd va t v) (upd la t ((i : Int) + 1))) ∨
     (th t = false ∧ x.lines[s]!.length ≠ m ∧ (putC x t st v).2.1 = zeroL ∧ MInv n m (i + 1) (putC x t st v).1 (upd th t true) (upd va t v) (upd la t ((i : Int) + 1))) ∨
     (th t = false ∧ x.lines[s]!.length = m ∧ ∃ k : Nat, k < 256 ∧ (putC x t st v).2.1.addr = (k : Int) ∧ (putC x t st v).2.1 ≠ zeroL ∧ (k : Int).tmod x.sets = (s : Int) ∧ th k = true ∧ va k = (putC x t st v).2.1.val_ ∧
       (∀ o : Nat, o < 256 → (o : Int).tmod x.sets = (s : Int) → th o = true → la k ≤ la o) ∧ MInv n m (i + 1) (putC x t st v).1 (upd (upd th k false) t true) (upd va t v) (upd la t ((i : Int) + 1)))) := by
  have hR := rightC_iff.1 h.right
  have hmay := h.may (t := t) hi
  refine ⟨(right_put hmay hst).2, ?_⟩
  obtain ⟨s, hts, hs, h3⟩ := put_ways (v := v) hmay hst
  refine ⟨s, hts, hs, ?_⟩
  have hset : ∀ (a : Nat) (y : Ln), a < 256 → y ∈ x.lines.flatten → y.addr = (a : Int) → (a : Int).tmod x.sets = (s : Int) → y ∈ x.lines[s]! := fun a y ha hy e e2 => by
    obtain ⟨_, j, hj, hjt, hyj⟩ := hR.at_ hy
    rw [e, e2] at hjt
    have : s = j := by omega
    rw [this]; exact hyj
  have hthf : (∀ y ∈ x.lines[s]!, y.addr ≠ (t : Int)) → th t = false := fun hno => by
    rw [← Bool.not_eq_true]
    intro hth
    obtain ⟨y, hy, e⟩ := (h.has t ht).1 hth
    exact hno y (hset t y ht hy e hts) e
  have hww := h.ways
  rcases h3 with ⟨k, hk, hka, e⟩ | ⟨hno, hw, e⟩ | ⟨hno, hw, e⟩
  · left
    obtain ⟨h1, h2⟩ := h.turn (v := v) ht hi hs hts hk hka hst
    have hu : upd th t true = th := by
      funext j
      by_cases hj : j = t
      · subst hj; rw [upd_same, h1]
      · rw [upd_other _ _ hj]
    rw [e, hu]
    exact ⟨h1, rfl, h2⟩
  · right; left
    rw [e]
    have hlw := (hR.sets s hs).1
    refine ⟨hthf hno, by omega, rfl, h.grow ht hi hs hts (List.Sublist.refl _) (by omega) hno hst (fun a ha hat => ?_) (upd_same _ _ _)⟩
    rw [upd_other _ _ hat, h.has a ha]
    exact ⟨fun ⟨y, hy, e⟩ => ⟨y, (mem_flat_rest hs).1 hy, e⟩, fun ⟨y, hy, e⟩ => ⟨y, (mem_flat_rest hs).2 hy, e⟩⟩
  · right; right
    have hl0 : 0 < x.lines[s]!.length := by have := (right_facts h.right).2.2.1; omega
    have hz := minD_mem hl0
    have hzf := mem_flat_set hs hz
    have hzok := hR.line hs hz
    have hz255 := h.small _ hzf
    obtain ⟨k, hk⟩ : ∃ k : Nat, (minD x.lines[s]!).addr = (k : Int) := ⟨(minD x.lines[s]!).addr.toNat, by have := hzok.1; omega⟩
    have hk256 : k < 256 := by omega
    have hkt : (k : Int).tmod x.sets = (s : Int) := by rw [← hk]; exact hzok.2.1
    have hthk : th k = true := (h.has k hk256).2 ⟨_, hzf, hk⟩
    rw [e]
    refine ⟨hthf hno, by omega, k, hk256, hk, ?_, hkt, hthk, ?_, fun o ho hot hoth => ?_, ?_⟩
    · intro e2
      have e3 : minD x.lines[s]! = zeroL := e2
      have h5 := hzok.2.2.2.2.1
      rw [e3] at h5
      exact absurd h5 (by decide)
    · have := h.vals _ hzf
      rw [hk, Int.toNat_natCast] at this
      exact this.symm
    · obtain ⟨y, hy, ey⟩ := (h.has o ho).1 hoth
      have hys := hset o y ho hy ey hot
      have h6 := h.order _ hzf _ hy (minD_le hys)
      rwa [hk, ey, Int.toNat_natCast, Int.toNat_natCast] at h6
    · have hfl := filter_len hl0
      refine h.grow ht hi hs hts List.filter_sublist (by omega) (fun y hy => hno y (List.mem_filter.1 hy).1) hst (fun a ha hat => ?_) (upd_same _ _ _)
      rw [upd_other _ _ hat]
      by_cases hak : a = k
      · subst hak
        rw [upd_same]
        refine ⟨fun h => (by cases h), ?_⟩
        rintro ⟨y, hy | hy, ey⟩
        · obtain ⟨g1, g2⟩ := (out_mem (hR.nodupA hs)).1 hy
          exact absurd (addr_inj (hR.nodupA hs) g1 hz (ey.trans hk.symm)) g2
        · exact absurd ey (hR.rest_ne hkt hy)
      · rw [upd_other _ _ hak, h.has a ha]
        constructor
        · rintro ⟨y, hy, ey⟩
          refine ⟨y, ?_, ey⟩
          rcases (mem_flat_rest hs).1 hy with g | g
          · refine .inl ((out_mem (hR.nodupA hs)).2 ⟨g, ?_⟩)
            rintro rfl
            rw [hk] at ey
            omega
          · exact .inr g
        · rintro ⟨y, hy | hy, ey⟩
          · exact ⟨y, (mem_flat_rest hs).2 (.inl (List.mem_filter.1 hy).1), ey⟩
          · exact ⟨y, (mem_flat_rest hs).2 (.inr hy), ey⟩
theorem MInv.there (h : MInv n m i x th va la) (ht : t < 256) {s : Nat} (hts : (t : Int).tmod x.sets = (s : Int)) (hs : s < x.lines.length) : th t = true ↔ ∃ y ∈ x.lines[s]!, y.addr = (t : Int) := by
  rw [h.has t ht]
  constructor
  · rintro ⟨y, hy, e⟩
    obtain ⟨_, j, hj, hjt, hyj⟩ := (rightC_iff.1 h.right).at_ hy
    rw [e, hts] at hjt
    have : s = j := by omega
    rw [this]; exact ⟨y, hyj, e⟩
  · rintro ⟨y, hy, e⟩
    exact ⟨y, mem_flat_set hs hy, e⟩
theorem MInv.use (h : MInv n m i x th va la) (ht : t < 256) (hi : i ≤ 1000) :
    (th t = true ∧ (useC x t).2 = 0 ∧ MInv n m (i + 1) (useC x t).1 th va (upd la t ((i : Int) + 1))) ∨ (th t = false ∧ (useC x t).2 = 7 ∧ MInv n m (i + 1) (useC x t).1 th va la) := by
  have hR := rightC_iff.1 h.right
  obtain ⟨s, hts, hs, h3⟩ := use_ways (h.may (t := t) hi)
  rcases h3 with ⟨k, hk, hka, e⟩ | ⟨hno, e⟩
  · left
    have hin : x.lines[s]![k]! ∈ x.lines[s]! := by rw [getElem!_pos x.lines[s]! k hk]; exact List.getElem_mem _
    have hl := hR.line hs hin
    obtain ⟨h1, h2⟩ := h.turn (v := x.lines[s]![k]!.val_) ht hi hs hts hk hka ⟨hl.2.2.1, hl.2.2.2.1⟩
    have hv := h.vals _ (mem_flat_set hs hin)
    rw [hka, Int.toNat_natCast] at hv
    have hu : upd va t x.lines[s]![k]!.val_ = va := by
      funext j
      by_cases hj : j = t
      · subst hj; rw [upd_same, hv]
      · rw [upd_other _ _ hj]
    rw [hu] at h2
    rw [e]
    refine ⟨h1, rfl, ?_⟩
    unfold usedC
    rw [hka]
    exact h2
  · right
    rw [e]
    refine ⟨?_, rfl, h.mono⟩
    rw [← Bool.not_eq_true, h.there ht hts hs]
    rintro ⟨y, hy, e2⟩
    exact hno y hy e2
theorem MInv.drop (h : MInv n m i x th va la) (ht : t < 256) (hi : i ≤ 1000) :
    (th t = true ∧ (dropC x t).2 = 0 ∧ MInv n m (i + 1) (dropC x t).1 (upd th t false) va la) ∨ (th t = false ∧ (dropC x t).2 = 7 ∧ MInv n m (i + 1) (dropC x t).1 (upd th t false) va la) := by
  have hR := rightC_iff.1 h.right
  obtain ⟨s, hts, hs, h3⟩ := drop_ways (t := (t : Int)) h.right (by omega)
  rcases h3 with ⟨k, hk, hka, e⟩ | ⟨hno, e⟩
  · left
    have hin : x.lines[s]![k]! ∈ x.lines[s]! := by rw [getElem!_pos x.lines[s]! k hk]; exact List.getElem_mem _
    have hm : ∀ y, y ∈ (x.lines.set s (x.lines[s]!.eraseIdx k)).flatten ↔ (y ∈ x.lines.flatten ∧ y.addr ≠ (t : Int)) := fun y => by
      rw [mem_set_flat hs, erase_mem (hR.nodupA hs) hk, hka, mem_flat_rest hs]
      constructor
      · rintro (⟨h1, h2⟩ | h3)
        · exact ⟨.inl h1, h2⟩
        · exact ⟨.inr h3, hR.rest_ne hts h3⟩
      · rintro ⟨h1 | h1, h2⟩
        · exact .inl ⟨h1, h2⟩
        · exact .inr h1
    rw [e]
    refine ⟨(h.there ht hts hs).2 ⟨_, hin, hka⟩, rfl, h.sets, h.ways, by have := h.clock; show x.clock ≤ _; omega, rightC_iff.2 (right_drop hR hs k), ?_, by simpa using h.num, fun y hy => h.small y ((hm y).1 hy).1, fun a ha => ?_, fun y hy => h.vals y ((hm y).1 hy).1, fun y hy z hz => h.order y ((hm y).1 hy).1 z ((hm z).1 hz).1, fun a => by have := h.late a; omega⟩
    · exact h.wf.set fun y hy => WfC.mem.1 h.wf s hs y ((List.eraseIdx_sublist _ _).subset hy)
    · by_cases hat : a = t
      · subst hat
        rw [upd_same]
        exact ⟨fun h => (by cases h), fun ⟨y, hy, e2⟩ => absurd e2 ((hm y).1 hy).2⟩
      · rw [upd_other _ _ hat, h.has a ha]
        exact ⟨fun ⟨y, hy, e2⟩ => ⟨y, (hm y).2 ⟨hy, by rw [e2]; omega⟩, e2⟩, fun ⟨y, hy, e2⟩ => ⟨y, ((hm y).1 hy).1, e2⟩⟩
  · right
    rw [e]
    have hf : th t = false := by
      rw [← Bool.not_eq_true, h.there ht hts hs]
      rintro ⟨y, hy, e2⟩
      exact hno y hy e2
    have hu : upd th t false = th := by
      funext j
      by_cases hj : j = t
      · subst hj; rw [upd_same, hf]
      · rw [upd_other _ _ hj]
    rw [hu]
    exact ⟨hf, rfl, h.mono⟩
/-- A look finds what is there, with its value. -/
theorem MInv.look (h : MInv n m i x th va la) (ht : t < 256) : (lookC x t).2 = th t ∧ (th t = true → (lookC x t).1.val_ = va t) := by
  obtain ⟨s, hts, hs, h0⟩ := set_of h.right (t := (t : Int)) (by omega)
  have h1 := look_iff h.right (a := (t : Int)) (by omega) hts
  have h2 := h.there ht hts hs
  refine ⟨?_, fun hth => ?_⟩
  · rw [Bool.eq_iff_iff, h1, h2]
  · unfold lookC setOf
    rw [if_pos ⟨h.right, by omega⟩, hts, Int.toNat_natCast]
    rcases idxA_cases x.lines[s]! t with ⟨hi, hno⟩ | ⟨k, hk, hi, hka, _⟩
    · exfalso
      obtain ⟨y, hy, e⟩ := h2.1 hth
      obtain ⟨j, hj, rfl⟩ := List.getElem_of_mem hy
      have := hno j hj
      rw [getElem!_pos x.lines[s]! j hj] at this
      exact of_decide_eq_false this e
    · rw [hi, if_neg (by omega), Int.toNat_natCast]
      have hv := h.vals _ (mem_flat_set hs (show x.lines[s]![k]! ∈ x.lines[s]! by rw [getElem!_pos x.lines[s]! k hk]; exact List.getElem_mem _))
      rw [hka, Int.toNat_natCast] at hv
      exact hv
theorem len_of_mem {l : List Ln} (hnd : (l.map Ln.addr).Nodup) (h0 : ∀ y ∈ l, 0 ≤ y.addr) {p : Nat → Bool} (hp : ∀ a, (a < 256 ∧ p a = true) ↔ ∃ y ∈ l, y.addr = (a : Int)) : l.length = ((List.range 256).filter p).length := by
  have hn2 : (l.map fun y => y.addr.toNat).Nodup := by
    have : (l.map Ln.addr).Pairwise (· ≠ ·) := hnd
    rw [List.pairwise_map] at this
    show (l.map fun y => y.addr.toNat).Pairwise (· ≠ ·)
    rw [List.pairwise_map]
    refine List.Pairwise.imp_of_mem (fun {a b} ha hb hab e => hab ?_) this
    have := h0 a ha
    have := h0 b hb
    omega
  have hp2 : (l.map fun y => y.addr.toNat).Perm ((List.range 256).filter p) := by
    rw [List.perm_ext_iff_of_nodup hn2 (List.nodup_range.filter _)]
    intro a
    rw [List.mem_map, List.mem_filter, List.mem_range, hp a]
    constructor
    · rintro ⟨y, hy, rfl⟩
      exact ⟨y, hy, by have := h0 y hy; omega⟩
    · rintro ⟨y, hy, e⟩
      exact ⟨y, hy, by rw [e, Int.toNat_natCast]⟩
  have := hp2.length_eq
  rwa [List.length_map] at this
/-- A set has as many lines as addresses of it are there. -/
theorem MInv.count (h : MInv n m i x th va la) {s : Nat} (hs : s < n) : x.lines[s]!.length = ((List.range 256).filter fun j => decide (j % n = s) && th j).length := by
  have hR := rightC_iff.1 h.right
  have hsl : s < x.lines.length := by rw [h.num]; exact hs
  refine len_of_mem (hR.nodupA hsl) (fun y hy => (hR.line hsl hy).1) fun a => ?_
  have hmod : (a : Int).tmod x.sets = (s : Int) ↔ a % n = s := by
    rw [Int.tmod_eq_emod_of_nonneg (by omega), h.sets]
    omega
  constructor
  · rintro ⟨ha, hp⟩
    rw [Bool.and_eq_true, decide_eq_true_eq] at hp
    exact (h.there ha (hmod.2 hp.1) hsl).1 hp.2
  · rintro ⟨y, hy, e⟩
    have h255 := h.small y (mem_flat_set hsl hy)
    have ha : a < 256 := by omega
    have hts := (hR.line hsl hy).2.1
    rw [e] at hts
    refine ⟨ha, ?_⟩
    rw [Bool.and_eq_true, decide_eq_true_eq]
    exact ⟨hmod.1 hts, (h.there ha hts hsl).2 ⟨y, hy, e⟩⟩
/-- A cache has as many lines as addresses are there. -/
theorem MInv.count_all (h : MInv n m i x th va la) : x.lines.flatten.length = ((List.range 256).filter th).length := by
  have hR := rightC_iff.1 h.right
  refine len_of_mem hR.addrs (fun y hy => (hR.at_ hy).1) fun a => ?_
  constructor
  · rintro ⟨ha, hp⟩
    exact (h.has a ha).1 hp
  · rintro ⟨y, hy, e⟩
    have h255 := h.small y hy
    have ha : a < 256 := by omega
    exact ⟨ha, (h.has a ha).2 ⟨y, hy, e⟩⟩
theorem MInv.new {n m : Nat} (h1 : 1 ≤ n) (h2 : n ≤ 8) (h3 : 1 ≤ m) (h4 : m ≤ 8) : MInv n m 0 ⟨n, m, 0, List.replicate n []⟩ (fun _ => false) (fun _ => 0) (fun _ => 0) := by
  have hl := LastInv.new h1 h2 h3 h4
  have hf : (List.replicate n ([] : List Ln)).flatten = [] := by
    rw [List.flatten_eq_nil_iff]
    intro l hl
    exact List.eq_of_mem_replicate hl
  have hno : ∀ y, y ∉ (List.replicate n ([] : List Ln)).flatten := fun y hy => by rw [hf] at hy; cases hy
  exact ⟨rfl, rfl, Int.le_refl _, hl.right, hl.wf, hl.num, fun y hy => absurd hy (hno y), fun a _ => ⟨fun h => (by cases h), fun ⟨y, hy, _⟩ => absurd hy (hno y)⟩, fun y hy => absurd hy (hno y), fun y hy => absurd hy (hno y), fun a => Int.le_refl _⟩
end
end Go.Proofs.Ytdndanjabknjpaa
