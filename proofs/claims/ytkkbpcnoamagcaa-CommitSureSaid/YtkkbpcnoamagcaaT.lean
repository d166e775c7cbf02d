/- Walks of commit's laws: CommitSure: what is used in its loop. -/
import Derived.Test.YtkkbpcnoamagcaaS
namespace Go.Proofs.Ytkkbpcnoamagcaa
open Go.RowKit Go.Lib
set_option linter.unusedVariables false

def toldE (x : Hld) : List Value := [.int .i64 x.core, .int .u32 x.val]
theorem toldE_len (x : Hld) : (toldE x).length = 2 := rfl
theorem toldE_map (l : List Hld) : (l.map Hld.told).flatMap Tld.enc = l.flatMap toldE := by
  rw [List.flatMap_map]; rfl
def spanE (x : Hld) : List Value := [.int .i64 x.span]
theorem spanE_len (x : Hld) : (spanE x).length = 1 := rfl
theorem info3 : (Try.prog.info? 3).map (fun i => (i.zero, i.size, i.bytes)) = some (some (.int .i64 0), 1, 8) := by kernel_rfl

/-- A slice's block is no row's. -/
def Off {α : Type} (xs : List α) (A : Option Addr) (v : Value) : Prop := xs ≠ [] → ∀ a, A = some a → v.ownBlock ≠ some a.block
theorem Sl.lt {α : Type} [Inhabited α] {k : Nat} {enc : α → List Value} {w : World} {A : Option Addr} {xs : List α} (h : Sl k enc w A xs) (hk : ∀ x, (enc x).length = k) (h0 : 0 < k) (hne : xs ≠ []) : ∀ a, A = some a → a.block < w.heap.size := by
  intro a e
  obtain ⟨b, off, e2, hc⟩ := h.cell hne
  rw [e2] at e
  injection e with e
  subst e
  have hl : 0 < xs.length := List.length_pos_iff.2 hne
  have h2 : (enc xs[0]!)[0]? = some ((enc xs[0]!)[0]'(by rw [hk]; exact h0)) := List.getElem?_eq_getElem _
  have := World.block_lt_of_cell? _ _ (hc 0 hl 0 _ h2)
  exact this
theorem Sl.grown {α : Type} [Inhabited α] {k : Nat} {enc : α → List Value} {w w' : World} {A : Option Addr} {xs : List α} {v : Value} (h : Sl k enc w A xs) (hg : w.grownBy w' v.ownBlock) (ho : Off xs A v) : Sl k enc w' A xs :=
  ⟨h.big, fun hne => by
    obtain ⟨b, off, e, hc⟩ := h.cell hne
    refine ⟨b, off, e, fun j hj i u hu => ?_⟩
    exact hg.cell (hc j hj i u hu) (Ne.symm (ho hne ⟨b, off, none⟩ e))⟩
theorem Off.next {α : Type} [Inhabited α] {k : Nat} {enc : α → List Value} {w : World} {A : Option Addr} {xs : List α} {v v' : Value} {X : Nat} (h : Off xs A v) (hat : v'.ownBlock = v.ownBlock ∨ v'.ownBlock = some X) (hs : Sl k enc w A xs) (hk : ∀ x, (enc x).length = k) (h0 : 0 < k) (hX : w.heap.size ≤ X) : Off xs A v' := by
  intro hne a e
  rcases hat with h1 | h1 <;> rw [h1]
  · exact h hne a e
  · intro h2
    injection h2 with h2
    have := hs.lt hk h0 hne a e
    omega
theorem Off.fresh {α : Type} {xs : List α} {A : Option Addr} {v : Value} {w : World} {base e k n : Nat} {cs : List Value} (hf : ∀ a, A = some a → w.heap.size ≤ a.block) (ho : w.ownsRow base e k v n cs) : Off xs A v := by
  intro _ a e h
  have := (ho.lt _ h).2
  have := hf a e
  omega
structure GOff (g : Gt) (A B : Option Addr) (v : Value) : Prop where
  held : Off g.held A v
  out : Off g.out B v
theorem GateIn.grown {w w' : World} {A B : Option Addr} {g : Gt} {v : Value} (h : GateIn w A B g.held g.out) (hg : w.grownBy w' v.ownBlock) (ho : GOff g A B v) : GateIn w' A B g.held g.out := ⟨h.held.grown hg ho.held, h.out.grown hg ho.out⟩
theorem GOff.next {w : World} {A B : Option Addr} {g : Gt} {v v' : Value} {X : Nat} (h : GOff g A B v) (hat : v'.ownBlock = v.ownBlock ∨ v'.ownBlock = some X) (hs : GateIn w A B g.held g.out) (hX : w.heap.size ≤ X) : GOff g A B v' :=
  ⟨h.held.next hat hs.held Hld.enc_len (by decide) hX, h.out.next hat hs.out Tld.enc_len (by decide) hX⟩
theorem GOff.fresh {A B : Option Addr} {g : Gt} {v : Value} {w : World} {base e k n : Nat} {cs : List Value} (h1 : ∀ a, A = some a → w.heap.size ≤ a.block) (h2 : ∀ a, B = some a → w.heap.size ≤ a.block) (ho : w.ownsRow base e k v n cs) : GOff g A B v := ⟨Off.fresh h1 ho, Off.fresh h2 ho⟩
theorem GOff.same {A B : Option Addr} {g : Gt} {v v' : Value} (h : GOff g A B v) (e : v'.ownBlock = v.ownBlock) : GOff g A B v' := ⟨fun hne a ha => by rw [e]; exact h.held hne a ha, fun hne a ha => by rw [e]; exact h.out hne a ha⟩
theorem own_take {w : World} {base e k n n' c : Nat} {A : Option Addr} {cs : List Value} (h : w.ownsRow base e k (.slice A n c) n cs) (hn : n' ≤ n) : w.ownsRow base e k (.slice A n' c) n' (cs.take (n' * k)) := by
  obtain ⟨hl, h⟩ := h
  refine ⟨by rw [List.length_take, hl]; exact Nat.min_eq_left (Nat.mul_le_mul_right _ hn), ?_⟩
  rcases h with ⟨h0, h1⟩ | ⟨g, cap, cur, hv, hb, hh, hnc, hm, hs, ht⟩
  · injection h0 with e1 e2 e3
    subst e1; subst e2; subst e3
    obtain rfl : n' = 0 := by omega
    exact .inl ⟨rfl, by simp⟩
  · injection hv with e1 e2 e3
    subst e1; subst e3
    refine .inr ⟨g, _, cur, rfl, hb, hh, by omega, hm, hs, ?_⟩
    rw [← ht, List.take_take]
    congr 1
    exact (Nat.min_eq_left (Nat.mul_le_mul_right _ hn)).symm
theorem flat_take {α : Type} {enc : α → List Value} {k : Nat} (hk : ∀ x, (enc x).length = k) : ∀ (l : List α) (j : Nat), (l.flatMap enc).take (j * k) = (l.take j).flatMap enc
  | [], j => by simp
  | x :: l, 0 => by simp
  | x :: l, j + 1 => by
    have e : (j + 1) * k = (enc x).length + j * k := by rw [hk, Nat.succ_mul]; omega
    rw [List.flatMap_cons, e, List.take_length_add_append, flat_take hk l j]; rfl
theorem fresh_num {w : World} {f : Nat} {args : Array Value} {r : Gt × Int} {g : Gt} {k : Int} {n m : Nat} (h : Calls Try.prog f args w (GaveF w r.1 r.2)) (hr : r = (g, k)) (hn : g.held.length = n) (hm : g.out.length = m) :
    Calls Try.prog f args w fun e w' => ∃ A c B d, e = .returned (.tuple #[.agg #[.slice A n c, .slice B m d], .int .i64 k]) ∧ GateIn w' A B g.held g.out ∧ Below w.heap.size w w' ∧ (∀ a, A = some a → w.heap.size ≤ a.block) ∧ (∀ a, B = some a → w.heap.size ≤ a.block) ∧ m ≤ d := by
  subst hr
  refine h.mono fun e w' hh => ?_
  obtain ⟨A, c, B, d, h1, h2⟩ := hh
  exact ⟨A, c, B, d, by rw [h1, hn, hm], h2.1, h2.2.1, h2.2.2.1, h2.2.2.2.1, hm ▸ h2.2.2.2.2⟩
theorem begin_round (wr : World) (x : Doi) (W0 : World) (hW0 : ((wr.alloc (.cells #[.int .u8 x.kind, .int .u8 x.dst, .int .i64 x.core, .int .u32 x.val] 45)).alloc (.cells #[.slice none 0 0, .slice none 0 0] 25)) = W0) :
    Below wr.heap.size wr W0 ∧ W0.cell? ⟨wr.heap.size, 0, none⟩ = some (.int .u8 x.kind) ∧ W0.cell? ⟨wr.heap.size, 1, none⟩ = some (.int .u8 x.dst) ∧ W0.cell? ⟨wr.heap.size, 2, none⟩ = some (.int .i64 x.core) ∧ W0.cell? ⟨wr.heap.size, 3, none⟩ = some (.int .u32 x.val) ∧
    W0.cell? ⟨wr.heap.size + 1, 0, none⟩ = some (.slice none 0 0) ∧ W0.cell? ⟨wr.heap.size + 1, 1, none⟩ = some (.slice none 0 0) ∧ W0.frozen? ⟨wr.heap.size + 1, 0, none⟩ = false ∧ W0.frozen? ⟨wr.heap.size + 1, 1, none⟩ = false ∧ W0.heap.size = wr.heap.size + 2 := by
  have b : Below wr.heap.size wr W0 := by subst hW0; exact ((Below.refl _ _).alloc (Nat.le_refl _) _).alloc (by simp) _
  refine ⟨b, ?_, ?_, ?_, ?_, ?_, ?_, ?_, ?_, ?_⟩ <;> subst hW0
  · go_simp
  · go_simp
  · go_simp
  · go_simp
  · go_simp
  · go_simp
  · go_simp
  · go_simp
  · simp
end Go.Proofs.Ytkkbpcnoamagcaa
