/- The plain laws of link: what Get does to a getter that is right. -/
import Derived.Test.YtjnpdicoopgkoaaK
namespace Go.Proofs.Ytjnpdicoopgkoaa

/-- Numbers that go up, the first beyond a bound. -/
def Asc : Int → List Pce → Prop
  | _, [] => True
  | a, x :: r => a < x.num ∧ Asc x.num r
theorem Asc.mono {a b : Int} (h : a ≤ b) : ∀ {l : List Pce}, Asc b l → Asc a l
  | [], _ => trivial
  | x :: r, ⟨h1, h2⟩ => ⟨by omega, h2⟩
theorem Asc.mem {a : Int} : ∀ {l : List Pce}, Asc a l → ∀ x ∈ l, a < x.num
  | [], _, x, hx => by cases hx
  | y :: r, ⟨h1, h2⟩, x, hx => by
    rcases List.mem_cons.1 hx with rfl | hx
    · exact h1
    · have := Asc.mem h2 x hx; omega
theorem Asc.len {hi : Int} : ∀ {l : List Pce} {a : Int}, Asc a l → (∀ x ∈ l, x.num < hi) → a < hi → (l.length : Int) ≤ hi - a - 1
  | [], a, _, _, h => by simp; omega
  | x :: r, a, ⟨h1, h2⟩, hb, _ => by
    have hx := hb x (by simp)
    have := Asc.len h2 (fun y hy => hb y (by simp [hy])) hx
    simp only [List.length_cons]
    omega
theorem asc_last {g : Gtr} : ∀ (l : List Pce) (a : Int), Asc a l ↔ ∀ j, j < l.length → (if j = 0 then a else l[j - 1]!.num) < l[j]!.num
  | [], a => by simp [Asc]
  | x :: r, a => by
    rw [Asc, asc_last (g := g) r x.num]
    constructor
    · rintro ⟨h1, h2⟩ j hj
      cases j with
      | zero => simpa using h1
      | succ j =>
        have := h2 j (by simpa using hj)
        cases j with
        | zero => simpa using this
        | succ j => simpa using this
    · intro h
      refine ⟨by simpa using h 0 (by simp), fun j hj => ?_⟩
      have := h (j + 1) (by simpa using hj)
      cases j with
      | zero => simpa using this
      | succ j => simpa using this
theorem gRight_iff {g : Gtr} : gRight g = true ↔ 0 ≤ g.next ∧ g.next ≤ 1099511627776 ∧ g.early.length ≤ 16 ∧ Asc g.next g.early ∧ ∀ x ∈ g.early, x.num < g.next + 16 := by
  simp only [gRight, decide_eq_true_eq]
  rw [asc_last (g := g)]
  constructor
  · rintro ⟨h1, h2, h3, h4⟩
    refine ⟨h1, h2, h3, fun j hj => (h4 j hj).1, fun x hx => ?_⟩
    obtain ⟨j, hj, rfl⟩ := List.getElem_of_mem hx
    have := (h4 j hj).2
    rwa [getElem!_pos g.early j hj] at this
  · rintro ⟨h1, h2, h3, h4, h5⟩
    refine ⟨h1, h2, h3, fun j hj => ⟨h4 j hj, ?_⟩⟩
    rw [getElem!_pos g.early j hj]
    exact h5 _ (List.getElem_mem hj)

theorem posG_nil (t : Int) : posG [] t = 0 := rfl
theorem posG_cons (x : Pce) (r : List Pce) (t : Int) : posG (x :: r) t = if t ≤ x.num then 0 else posG r t + 1 := by
  unfold posG
  rw [List.findIdx_cons]
  by_cases h : t ≤ x.num <;> simp [h]
theorem insG_nil (p : Pce) : insG [] p = [p] := rfl
theorem insG_cons (x : Pce) (r : List Pce) (p : Pce) : insG (x :: r) p = if p.num ≤ x.num then p :: x :: r else x :: insG r p := by
  unfold insG
  rw [posG_cons]
  by_cases h : p.num ≤ x.num <;> simp [h]
theorem thereG_cons (x : Pce) (r : List Pce) (t : Int) : thereG (x :: r) t = if t ≤ x.num then decide (x.num = t) else thereG r t := by
  unfold thereG
  rw [posG_cons]
  by_cases h : t ≤ x.num <;> simp [h]
theorem thereG_mem {a : Int} : ∀ {l : List Pce}, Asc a l → ∀ x ∈ l, thereG l x.num = true
  | [], _, x, hx => by cases hx
  | y :: r, ⟨h1, h2⟩, x, hx => by
    rw [thereG_cons]
    rcases List.mem_cons.1 hx with rfl | hx
    · simp
    · have := h2.mem x hx
      rw [if_neg (by omega)]
      exact thereG_mem h2 x hx
theorem thereG_not {a : Int} : ∀ {l : List Pce} {t : Int}, Asc a l → thereG l t = false → ∀ x ∈ l, x.num ≠ t
  | [], t, _, _, x, hx => by cases hx
  | y :: r, t, ⟨h1, h2⟩, h, x, hx => by
    rw [thereG_cons] at h
    by_cases ht : t ≤ y.num
    · rw [if_pos ht] at h
      have hne : y.num ≠ t := of_decide_eq_false h
      rcases List.mem_cons.1 hx with rfl | hx
      · exact hne
      · have := h2.mem x hx; omega
    · rw [if_neg ht] at h
      rcases List.mem_cons.1 hx with rfl | hx
      · omega
      · exact thereG_not h2 h x hx
theorem insG_mem {p x : Pce} : ∀ {l : List Pce}, x ∈ insG l p ↔ x = p ∨ x ∈ l
  | [] => by simp [insG_nil]
  | y :: r => by
    rw [insG_cons]
    by_cases h : p.num ≤ y.num
    · rw [if_pos h]; simp
    · rw [if_neg h, List.mem_cons, insG_mem (l := r), List.mem_cons]
      constructor
      · rintro (h | h | h) <;> simp [h]
      · rintro (h | h | h) <;> simp [h]
theorem insG_asc {p : Pce} : ∀ {l : List Pce} {a : Int}, Asc a l → a < p.num → (∀ x ∈ l, x.num ≠ p.num) → Asc a (insG l p)
  | [], a, _, h, _ => ⟨h, trivial⟩
  | y :: r, a, ⟨h1, h2⟩, h, hne => by
    rw [insG_cons]
    by_cases hp : p.num ≤ y.num
    · rw [if_pos hp]
      have := hne y (by simp)
      exact ⟨h, by omega, h2⟩
    · rw [if_neg hp]
      exact ⟨h1, insG_asc h2 (by omega) fun x hx => hne x (by simp [hx])⟩

/-- What the run leaves. -/
structure Ran (n : Int) (l : List Pce) (c : List Wrd) (r : Gtr) : Prop where
  up : n ≤ r.next
  len : (r.came.length : Int) - c.length = r.next - n
  asc : Asc r.next r.early
  sub : ∀ x ∈ r.early, x ∈ l
  or : ∀ x ∈ l, x.num < r.next ∨ x ∈ r.early
theorem runG_ran : ∀ (l : List Pce) (n : Int) (c : List Wrd) (hi : Int), Asc (n - 1) l → (∀ x ∈ l, x.num < hi) → n ≤ hi → hi ≤ 1099511627776 → Ran n l c (runG n l c) ∧ (runG n l c).next ≤ hi
  | [], n, c, hi, _, _, hn, _ => ⟨⟨Int.le_refl _, by simp [runG], trivial, fun x hx => by simp [runG] at hx, fun x hx => by simp at hx⟩, by simpa [runG] using hn⟩
  | x :: r, n, c, hi, ⟨h1, h2⟩, hb, hn, h40 => by
    have hx := hb x (by simp)
    rw [runG]
    by_cases hc : x.num = n ∧ n < 1099511627776
    · rw [if_pos hc]
      obtain ⟨hc1, hc2⟩ := hc
      obtain ⟨R, hle⟩ := runG_ran r (n + 1) (c ++ [⟨x.val⟩]) hi (by rw [show n + 1 - 1 = x.num by omega]; exact h2) (fun y hy => hb y (by simp [hy])) (by omega) h40
      refine ⟨⟨by have := R.up; omega, by have := R.len; simp at this; omega, R.asc, fun y hy => by simp [R.sub y hy], fun y hy => ?_⟩, hle⟩
      rcases List.mem_cons.1 hy with rfl | hy
      · left; have := R.up; omega
      · exact R.or y hy
    · rw [if_neg hc]
      refine ⟨⟨Int.le_refl _, by simp, ⟨by simp only; omega, h2⟩, fun y hy => hy, fun y hy => .inr hy⟩, hn⟩

/-- What Get does to a getter that is right, at a piece that counts. -/
structure Got (g : Gtr) (p : Pce) (h : Gtr) : Prop where
  up : g.next ≤ h.next
  le : h.next ≤ g.next + 16
  len : (h.came.length : Int) - g.came.length = h.next - g.next
  right : gRight h = true
  sub : ∀ x ∈ h.early, x = p ∨ x ∈ g.early
theorem getG_got {g : Gtr} {p : Pce} (hr : gRight g = true) (hp : 0 ≤ p.num) (hn : g.next ≤ 549755813888) : (getG g p).2 = 0 ∧ Got g p (getG g p).1 := by
  obtain ⟨h1, h2, h3, h4, h5⟩ := gRight_iff.1 hr
  unfold getG
  rw [if_neg (by rw [hr]; simp only [Bool.true_eq_false, false_or]; omega)]
  by_cases hc : p.num < g.next ∨ g.next + 16 ≤ p.num ∨ thereG g.early p.num = true
  · rw [if_pos hc]
    exact ⟨rfl, ⟨Int.le_refl _, by show g.next ≤ g.next + 16; omega, by show (g.came.length : Int) - g.came.length = g.next - g.next; omega, hr, fun x hx => .inr hx⟩⟩
  · rw [if_neg hc]
    refine ⟨rfl, ?_⟩
    have hl : g.next ≤ p.num := by omega
    have hh : p.num < g.next + 16 := by omega
    have ht : thereG g.early p.num = false := by
      cases h : thereG g.early p.num with
      | false => rfl
      | true => exact absurd (.inr (.inr h)) hc
    have ha : Asc (g.next - 1) (insG g.early p) := insG_asc (h4.mono (by omega)) (by omega) (thereG_not h4 ht)
    have hb : ∀ x ∈ insG g.early p, x.num < g.next + 16 := fun x hx => by
      rcases insG_mem.1 hx with rfl | hx
      · exact hh
      · exact h5 x hx
    obtain ⟨R, hle⟩ := runG_ran (insG g.early p) g.next g.came (g.next + 16) ha hb (by omega) (by omega)
    have hb2 : ∀ x ∈ (runG g.next (insG g.early p) g.came).early, x.num < (runG g.next (insG g.early p) g.came).next + 16 := fun x hx => by have := hb x (R.sub x hx); have := R.up; omega
    refine ⟨R.up, hle, R.len, gRight_iff.2 ⟨by have := R.up; show 0 ≤ (runG g.next (insG g.early p) g.came).next; omega, by show (runG g.next (insG g.early p) g.came).next ≤ 1099511627776; omega, ?_, R.asc, hb2⟩, fun x hx => insG_mem.1 (R.sub x hx)⟩
    have := R.asc.len hb2 (by omega)
    show (runG g.next (insG g.early p) g.came).early.length ≤ 16
    omega
theorem getG_outside {g : Gtr} {p : Pce} (hr : gRight g = true) (hp : 0 ≤ p.num) (hn : g.next ≤ 549755813888) (ho : p.num < g.next ∨ g.next + 16 ≤ p.num) : getG g p = (g, 0) := by
  unfold getG
  rw [if_neg (by rw [hr]; simp only [Bool.true_eq_false, false_or]; omega), if_pos (by rcases ho with h | h <;> simp [h])]
theorem getG_again {g : Gtr} {p : Pce} (hr : gRight g = true) (hn : g.next ≤ 549755813888) (h0 : 0 ≤ p.num) (hl : g.next ≤ p.num) (hh : p.num < g.next + 16) : getG (getG g p).1 p = ((getG g p).1, 0) := by
  obtain ⟨_, G⟩ := getG_got hr h0 hn
  have hr2 := G.right
  have hup := G.up
  have hle := G.le
  have key : p.num < (getG g p).1.next ∨ thereG (getG g p).1.early p.num = true := by
    obtain ⟨h1, h2, h3, h4, h5⟩ := gRight_iff.1 hr
    unfold getG
    rw [if_neg (by rw [hr]; simp only [Bool.true_eq_false, false_or]; omega)]
    cases ht : thereG g.early p.num with
    | true =>
      rw [if_pos (.inr (.inr rfl))]
      exact .inr ht
    | false =>
      rw [if_neg (by simp only [Bool.false_eq_true, or_false]; omega)]
      have ha : Asc (g.next - 1) (insG g.early p) := insG_asc (h4.mono (by omega)) (by omega) (thereG_not h4 ht)
      have hb : ∀ x ∈ insG g.early p, x.num < g.next + 16 := fun x hx => by
        rcases insG_mem.1 hx with rfl | hx
        · exact hh
        · exact h5 x hx
      obtain ⟨R, hle⟩ := runG_ran (insG g.early p) g.next g.came (g.next + 16) ha hb (by omega) (by omega)
      rcases R.or p (insG_mem.2 (.inl rfl)) with h | h
      · exact .inl h
      · exact .inr (thereG_mem R.asc p h)
  generalize getG g p = r at *
  obtain ⟨h, k⟩ := r
  simp only at *
  unfold getG
  rw [if_neg (by rw [hr2]; simp only [Bool.true_eq_false, false_or]; omega), if_pos (by rcases key with h | h <;> simp [h])]
theorem getG_neg {g : Gtr} {p : Pce} (hp : p.num < 0) : getG g p = (g, 1) := by
  unfold getG
  rw [if_pos (.inr (.inl hp))]
end Go.Proofs.Ytjnpdicoopgkoaa
