/- The plain law of LinkOnce: what came is a beginning of what was sent; all that is out, sent again, comes. -/
import Derived.Test.YtjnpdicoopgkoaaS
namespace Go.Proofs.Ytjnpdicoopgkoaa

/-- All that was sent, each at its number. -/
def Numbered (l : List Pce) : Prop := ∀ j, j < l.length → l[j]!.num = j
def vals (l : List Pce) (n : Nat) : List Wrd := (l.take n).map fun x => ⟨x.val⟩
/-- What is known as it goes on. -/
structure LK (s : Snd) (g : Gtr) (sent : List Pce) (acks : List Int) (i : Nat) : Prop where
  len : sent.length ≤ i
  i150 : i ≤ 150
  num : Numbered sent
  next : s.next = sent.length
  o16 : s.out.length ≤ 16
  oN : s.out.length ≤ sent.length
  out : s.out = sent.drop (sent.length - s.out.length)
  right : gRight g = true
  gnext : g.next = g.came.length
  gle : g.came.length ≤ sent.length
  came : g.came = vals sent g.came.length
  early : ∀ x ∈ g.early, x ∈ sent
  alen : acks.length ≤ i + 1
  apos : 0 < acks.length
  acks : ∀ a ∈ acks, 0 ≤ a ∧ a ≤ g.next
  base : sent.length - s.out.length ≤ g.came.length

theorem numbered_mem {l : List Pce} (h : Numbered l) {x : Pce} (hx : x ∈ l) : ∃ j, j < l.length ∧ x.num = j ∧ l[j]! = x := by
  obtain ⟨j, hj, rfl⟩ := List.getElem_of_mem hx
  have e := getElem!_pos l j hj
  exact ⟨j, hj, by rw [← e]; exact h j hj, e⟩
theorem numbered_snoc {l : List Pce} (h : Numbered l) {x : Pce} (hx : x.num = l.length) : Numbered (l ++ [x]) := fun j hj => by
  rw [List.length_append, List.length_singleton] at hj
  by_cases hj2 : j < l.length
  · rw [getElem!_pos _ j (by simp; omega), List.getElem_append_left hj2, ← getElem!_pos l j hj2]; exact h j hj2
  · obtain rfl : j = l.length := by omega
    rw [getElem!_pos _ _ (by simp)]; simpa using hx
theorem vals_snoc (l : List Pce) (n : Nat) (h : n < l.length) : vals l (n + 1) = vals l n ++ [⟨l[n]!.val⟩] := by
  unfold vals
  rw [List.take_succ_eq_append_getElem h, List.map_append, getElem!_pos l n h]; rfl
theorem vals_append (l r : List Pce) (n : Nat) (h : n ≤ l.length) : vals (l ++ r) n = vals l n := by
  unfold vals
  rw [List.take_append_of_le_length h]
theorem runG_vals {sent : List Pce} (hN : Numbered sent) : ∀ (l : List Pce) (n : Int) (c : List Wrd), (∀ x ∈ l, x ∈ sent) → n = c.length → c.length ≤ sent.length → c = vals sent c.length →
    (runG n l c).next = (runG n l c).came.length ∧ (runG n l c).came.length ≤ sent.length ∧ (runG n l c).came = vals sent (runG n l c).came.length
  | [], n, c, _, h1, h2, h3 => ⟨h1, h2, h3⟩
  | x :: r, n, c, hs, h1, h2, h3 => by
    rw [runG]
    by_cases hc : x.num = n ∧ n < 1099511627776
    · rw [if_pos hc]
      obtain ⟨j, hj, e1, e2⟩ := numbered_mem hN (hs x (by simp))
      obtain rfl : j = c.length := by omega
      refine runG_vals hN r (n + 1) (c ++ [⟨x.val⟩]) (fun y hy => hs y (by simp [hy])) (by simp; omega) (by simp; omega) ?_
      rw [List.length_append, List.length_singleton, vals_snoc sent _ hj, e2, ← h3]
    · rw [if_neg hc]
      exact ⟨h1, h2, h3⟩

section
variable {s : Snd} {g : Gtr} {sent : List Pce} {acks : List Int} {i : Nat}
theorem LK.start : LK ⟨0, []⟩ ⟨0, [], []⟩ [] [0] 0 :=
  ⟨Nat.le_refl _, by decide, (fun j hj => by cases hj), rfl, by decide, by decide, rfl, by decide, rfl, by decide, rfl, (fun x hx => by cases hx), by decide, by decide, (fun a ha => by simp at ha; subst ha; exact ⟨by decide, by decide⟩), by decide⟩
theorem LK.step (h : LK s g sent acks i) (hi : i < 150) : LK s g sent acks (i + 1) := by
  obtain ⟨a, b, c, d, e, f, g1, g2, g3, g4, g5, g6, g7, g8, g9, g10⟩ := h
  exact ⟨by omega, by omega, c, d, e, f, g1, g2, g3, g4, g5, g6, by omega, g8, g9, g10⟩
theorem LK.sright (h : LK s g sent acks i) : sRight s = true := by
  simp only [sRight, decide_eq_true_eq]
  have h1 := h.next
  have h2 := h.len
  have h3 := h.i150
  have h4 := h.oN
  have h5 := h.o16
  refine ⟨by omega, by omega, h5, by omega, fun j hj => ?_⟩
  have e : s.out[j]! = sent[sent.length - s.out.length + j]! := by
    have h6 := h.out
    rw [getElem!_pos s.out j hj, getElem!_pos sent _ (by omega)]
    conv => lhs; arg 1; rw [h6]
    rw [List.getElem_drop]
  rw [e, h.num _ (by omega)]
  omega
theorem LK.gnextle (h : LK s g sent acks i) : g.next ≤ 150 := by have := h.gnext; have := h.gle; have := h.len; have := h.i150; omega
/-- A word is sent. -/
theorem LK.send (h : LK s g sent acks i) (hi : i < 150) (v : Int) (ho : s.out.length < 16) :
    ∃ s', sendS s v = (s', ⟨sent.length, v⟩, 0) ∧ LK s' g (sent ++ [⟨sent.length, v⟩]) acks (i + 1) := by
  have h1 := h.next
  have h2 := h.len
  have h4 := h.oN
  refine ⟨⟨s.next + 1, s.out ++ [⟨s.next, v⟩]⟩, ?_, ?_⟩
  · unfold sendS
    rw [if_neg (by rw [h.sright]; simp), if_neg (by omega), h1]
  · refine ⟨by simp; omega, by omega, numbered_snoc h.num rfl, by simp; omega, by simp; omega, by simp; omega, ?_, h.right, h.gnext, ?_, ?_, ?_, by have := h.alen; omega, h.apos, h.acks, ?_⟩
    · simp only [List.length_append, List.length_singleton]
      rw [show sent.length + 1 - (s.out.length + 1) = sent.length - s.out.length by omega, List.drop_append_of_le_length (by omega), ← h.out, h1]
    · simp; have := h.gle; omega
    · rw [vals_append _ _ _ h.gle]; exact h.came
    · intro x hx; simp [h.early x hx]
    · simp only [List.length_append, List.length_singleton]; have := h.base; omega
theorem LK.full (h : LK s g sent acks i) (v : Int) (ho : s.out.length = 16) : sendS s v = (s, ⟨0, 0⟩, 6) := by
  unfold sendS
  rw [if_neg (by rw [h.sright]; simp), if_pos (.inl ho)]
/-- A piece that was sent comes. -/
theorem LK.gets (h : LK s g sent acks i) (hi : i < 150) {p : Pce} (hp : p ∈ sent) :
    ∃ g', getG g p = (g', 0) ∧ g.next ≤ g'.next ∧ g'.next = g'.came.length ∧ LK s g' sent (acks ++ [g'.next]) (i + 1) := by
  have hn := h.gnextle
  obtain ⟨j, hj, e1, e2⟩ := numbered_mem h.num hp
  have hp0 : 0 ≤ p.num := by omega
  obtain ⟨hk, G⟩ := getG_got h.right hp0 (by omega)
  have hrun : (getG g p).1.next = (getG g p).1.came.length ∧ (getG g p).1.came.length ≤ sent.length ∧ (getG g p).1.came = vals sent (getG g p).1.came.length := by
    unfold getG
    split
    · exact ⟨h.gnext, h.gle, h.came⟩
    · split
      · exact ⟨h.gnext, h.gle, h.came⟩
      · have hin : ∀ x ∈ insG g.early p, x ∈ sent := fun x hx => by
          rcases insG_mem.1 hx with rfl | hx
          · exact hp
          · exact h.early x hx
        exact runG_vals h.num _ _ _ hin h.gnext h.gle h.came
  obtain ⟨r1, r2, r3⟩ := hrun
  refine ⟨(getG g p).1, by rw [← hk], G.up, r1, ?_⟩
  have hup := G.up
  have h0 := h.gnext
  refine ⟨by have := h.len; omega, by omega, h.num, h.next, h.o16, h.oN, h.out, G.right, r1, r2, r3, fun x hx => ?_, by simp; have := h.alen; omega, by simp, fun a ha => ?_, by have := h.base; omega⟩
  · rcases G.sub x hx with rfl | hx
    · exact hp
    · exact h.early x hx
  · rcases List.mem_append.1 ha with ha | ha
    · have := h.acks a ha; omega
    · simp at ha; subst ha; omega
/-- An acknowledgement comes. -/
theorem filter_num {l : List Pce} (hN : Numbered l) (b : Nat) (hb : b ≤ l.length) (a : Nat) : ((l.drop b).filter fun x => !decide (x.num < (a : Int))) = l.drop (max b a) := by
  obtain ⟨n, hn⟩ : ∃ n, l.length - b = n := ⟨_, rfl⟩
  induction n generalizing b with
  | zero =>
    rw [List.drop_eq_nil_of_le (by omega), List.drop_eq_nil_of_le (by omega)]; rfl
  | succ n ih =>
    rw [List.drop_eq_getElem_cons (by omega), List.filter_cons]
    have hx : l[b].num = (b : Int) := by
      have := hN b (by omega)
      rwa [getElem!_pos l b (by omega)] at this
    by_cases hlt : b < a
    · have : (!decide (l[b].num < (a : Int))) = false := by rw [hx]; simp; omega
      rw [this]
      simp only [Bool.false_eq_true, if_false]
      rw [ih (b + 1) (by omega) (by omega)]
      congr 1; omega
    · have : (!decide (l[b].num < (a : Int))) = true := by rw [hx]; simp; omega
      rw [this]
      simp only [if_true]
      rw [ih (b + 1) (by omega) (by omega), Nat.max_eq_left (show a ≤ b by omega), Nat.max_eq_left (show a ≤ b + 1 by omega), ← List.drop_eq_getElem_cons]
theorem LK.ack (h : LK s g sent acks i) (hi : i < 150) {a : Int} (ha : a ∈ acks) : ∃ s', ackedS s a = (s', 0) ∧ LK s' g sent acks (i + 1) := by
  obtain ⟨h0, h1⟩ := h.acks a ha
  have hn := h.next
  have hg := h.gnext
  have hgl := h.gle
  have hoN := h.oN
  obtain ⟨k, rfl⟩ : ∃ k : Nat, a = (k : Int) := ⟨a.toNat, by omega⟩
  have hf : (s.out.filter fun x => !decide (x.num < (k : Int))) = sent.drop (max (sent.length - s.out.length) k) := by
    conv => lhs; rw [h.out]
    exact filter_num h.num _ (by omega) k
  have hl : (sent.drop (max (sent.length - s.out.length) k)).length = sent.length - max (sent.length - s.out.length) k := List.length_drop ..
  refine ⟨⟨s.next, s.out.filter fun x => !decide (x.num < (k : Int))⟩, ?_, ?_⟩
  · unfold ackedS
    rw [if_neg (by rw [h.sright]; simp only [Bool.true_eq_false, false_or]; omega)]
  · have hb := h.base
    have ho := h.o16
    refine ⟨by have := h.len; omega, by omega, h.num, h.next, ?_, ?_, ?_, h.right, h.gnext, h.gle, h.came, h.early, by have := h.alen; omega, h.apos, h.acks, ?_⟩
    · show (s.out.filter _).length ≤ 16
      rw [hf, hl]; omega
    · show (s.out.filter _).length ≤ _
      rw [hf, hl]; omega
    · show s.out.filter _ = sent.drop (sent.length - (s.out.filter _).length)
      rw [hf, hl]
      congr 1; omega
    · show sent.length - (s.out.filter _).length ≤ _
      rw [hf, hl]; omega
theorem LK.val (h : LK s g sent acks i) (k : Nat) (hk : k < g.came.length) : g.came[k]!.val = sent[k]!.val := by
  have h1 := h.came
  have h2 := h.gle
  rw [getElem!_pos g.came k hk, getElem!_pos sent k (by omega)]
  conv => lhs; arg 1; arg 1; rw [h1]
  simp [vals]
theorem LK.again (h : LK s g sent acks i) : againL s = s.out := by unfold againL; rw [h.sright]; rfl

/-- As all that is out comes again. -/
structure LF (g : Gtr) (sent out : List Pce) (k : Nat) : Prop where
  num : Numbered sent
  len : sent.length ≤ 150
  oN : out.length ≤ sent.length
  oE : out = sent.drop (sent.length - out.length)
  right : gRight g = true
  gnext : g.next = g.came.length
  gle : g.came.length ≤ sent.length
  came : g.came = vals sent g.came.length
  early : ∀ x ∈ g.early, x ∈ sent
  ge : sent.length - out.length + k ≤ g.came.length
theorem LK.final (h : LK s g sent acks i) : LF g sent s.out 0 :=
  ⟨h.num, by have := h.len; have := h.i150; omega, h.oN, h.out, h.right, h.gnext, h.gle, h.came, h.early, by have := h.base; omega⟩
theorem LF.step {out : List Pce} {k : Nat} (h : LF g sent out k) (hk : k < out.length) : ∃ g', getG g out[k]! = (g', 0) ∧ LF g' sent out (k + 1) := by
  have hn := h.gnext
  have hgl := h.gle
  have hl := h.len
  have hoN := h.oN
  have hge := h.ge
  have e : out[k]! = sent[sent.length - out.length + k]! := by
    have h6 := h.oE
    rw [getElem!_pos out k hk, getElem!_pos sent _ (by omega)]
    conv => lhs; arg 1; rw [h6]
    rw [List.getElem_drop]
  have hp : out[k]! ∈ sent := by rw [e, getElem!_pos sent _ (by omega)]; exact List.getElem_mem _
  have hpn : out[k]!.num = ((sent.length - out.length + k : Nat) : Int) := by rw [e]; exact h.num _ (by omega)
  obtain ⟨hk2, G⟩ := getG_got h.right (p := out[k]!) (by omega) (by omega)
  have hup := G.up
  obtain ⟨h1, h2, h3, h4, h5⟩ := gRight_iff.1 h.right
  have key : (getG g out[k]!).1.next = (getG g out[k]!).1.came.length ∧ (getG g out[k]!).1.came.length ≤ sent.length ∧ (getG g out[k]!).1.came = vals sent (getG g out[k]!).1.came.length ∧ out[k]!.num < (getG g out[k]!).1.next := by
    by_cases hlow : out[k]!.num < g.next
    · rw [getG_outside h.right (by omega) (by omega) (.inl hlow)]
      exact ⟨h.gnext, h.gle, h.came, hlow⟩
    · have heq : out[k]!.num = g.next := by omega
      unfold getG
      rw [if_neg (by rw [h.right]; simp only [Bool.true_eq_false, false_or]; omega)]
      have ht : thereG g.early out[k]!.num = false := by
        cases ht : thereG g.early out[k]!.num with
        | false => rfl
        | true =>
          exfalso
          unfold thereG at ht
          obtain ⟨a, b⟩ := of_decide_eq_true ht
          rw [getElem!_pos g.early _ a] at b
          have := h4.mem _ (List.getElem_mem a)
          omega
      rw [if_neg (by rw [ht]; simp only [Bool.false_eq_true, or_false]; omega)]
      have hin : ∀ x ∈ insG g.early out[k]!, x ∈ sent := fun x hx => by
        rcases insG_mem.1 hx with rfl | hx
        · exact hp
        · exact h.early x hx
      obtain ⟨r1, r2, r3⟩ := runG_vals h.num (insG g.early out[k]!) g.next g.came hin h.gnext h.gle h.came
      refine ⟨r1, r2, r3, ?_⟩
      have hfirst : insG g.early out[k]! = out[k]! :: g.early := by
        cases hE : g.early with
        | nil => rfl
        | cons y r =>
          rw [insG_cons, if_pos]
          have := h4.mem y (by rw [hE]; simp)
          omega
      have hasc : Asc (g.next - 1) (insG g.early out[k]!) := by
        rw [hfirst]; exact ⟨by omega, by rw [heq]; exact h4⟩
      have hb : ∀ x ∈ insG g.early out[k]!, x.num < g.next + 16 := fun x hx => by
        rcases insG_mem.1 hx with rfl | hx
        · omega
        · exact h5 x hx
      obtain ⟨R, _⟩ := runG_ran (insG g.early out[k]!) g.next g.came (g.next + 16) hasc hb (by omega) (by omega)
      show out[k]!.num < (runG g.next (insG g.early out[k]!) g.came).next
      rw [hfirst, runG, if_pos ⟨heq, by omega⟩]
      have hasc2 : Asc (g.next + 1 - 1) g.early := by rw [show g.next + 1 - 1 = g.next by omega]; exact h4
      obtain ⟨R2, _⟩ := runG_ran g.early (g.next + 1) (g.came ++ [⟨out[k]!.val⟩]) (g.next + 16) hasc2 h5 (by omega) (by omega)
      have := R2.up
      omega
  obtain ⟨r1, r2, r3, r4⟩ := key
  refine ⟨(getG g out[k]!).1, by rw [← hk2], ⟨h.num, h.len, h.oN, h.oE, G.right, r1, r2, r3, fun x hx => ?_, by omega⟩⟩
  rcases G.sub x hx with rfl | hx
  · exact hp
  · exact h.early x hx
theorem LF.done {out : List Pce} (h : LF g sent out out.length) : g.came.length = sent.length ∧ g.early = [] := by
  have hge := h.ge
  have hgl := h.gle
  have hoN := h.oN
  have e : g.came.length = sent.length := by omega
  refine ⟨e, List.eq_nil_iff_forall_not_mem.2 fun x hx => ?_⟩
  obtain ⟨_, _, _, h4, _⟩ := gRight_iff.1 h.right
  have h1 := h4.mem x hx
  obtain ⟨j, hj, e1, _⟩ := numbered_mem h.num (h.early x hx)
  have := h.gnext
  omega
end
end Go.Proofs.Ytjnpdicoopgkoaa
