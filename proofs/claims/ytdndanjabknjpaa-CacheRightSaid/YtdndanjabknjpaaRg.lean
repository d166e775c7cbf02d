/- A region that draws its order: an invariant over what has come up serves for every order at once. -/
import Derived.Test.YtdndanjabknjpaaLibB
import Derived.Orders
import Derived.Maps.AppendAt
import Derived.Calls
namespace Go.Proofs.Ytdndanjabknjpaa
open Go

section
variable {P : Program} {ops : Array Oper} {Q : Exit → Act → World → Prop} {md : Region.Mode}

def acyc (md : Region.Mode) (ops : Array Oper) : Bool :=
  (List.range ops.size).all fun i => ((ops[i]?).map fun o => o.after.all fun e => !Region.binds md e || decide (e.on < i)).getD true

theorem filter_lt {α : Type} (p q : α → Bool) (hpq : ∀ x, q x = true → p x = true) (y : α) (hp : p y = true) (hq : q y = false) : ∀ l : List α, y ∈ l → (l.filter q).length < (l.filter p).length
  | [], h => by cases h
  | x :: l, h => by
    have hle : (l.filter q).length ≤ (l.filter p).length := by
      clear h
      induction l with
      | nil => simp
      | cons z l ih =>
        cases hz : q z
        · cases hz2 : p z <;> simp [hz, hz2] <;> omega
        · simp [hz, hpq z hz]; omega
    by_cases e : x = y
    · subst e
      simp [hp, hq]; omega
    · have hy : y ∈ l := by
        rcases List.mem_cons.1 h with h | h
        · exact absurd h.symm e
        · exact h
      have ih := filter_lt p q hpq y hp hq l hy
      cases hz : q x
      · cases hz2 : p x <;> simp [hz, hz2] <;> omega
      · simp [hz, hpq x hz]; omega

theorem getD_set {l : Array Bool} {i j : Nat} (hi : i < l.size) (d : Bool) : (l.setIfInBounds i true).getD j d = (l.getD j d || decide (j = i)) := by
  by_cases e : j = i
  · subst e; simp [hi]
  · have : i ≠ j := fun h => e h.symm
    simp [Array.getD_eq_getD_getElem?, Array.getElem?_setIfInBounds_ne this, e]

theorem all_listed (hac : acyc md ops = true) {listed : Array Bool} (hs : listed.size = ops.size) (hr : Region.ready md ops listed = []) : ∀ i, i < ops.size → listed.getD i false = true := by
  intro i
  induction i using Nat.strongRecOn with
  | ind i ih =>
    intro hi
    cases hl : listed.getD i false with
    | true => rfl
    | false =>
      exfalso
      have hmem : i ∈ Region.ready md ops listed := by
        rw [mem_ready]
        have ho : ops[i]? = some ops[i] := Array.getElem?_eq_getElem hi
        refine ⟨?_, ops[i], ho, fun e he hb => ?_⟩
        · have : i < listed.size := by omega
          simpa [Array.getD_eq_getD_getElem?, Array.getElem?_eq_getElem this] using hl
        · have h1 := List.all_eq_true.1 hac i (List.mem_range.2 hi)
          rw [ho] at h1
          simp only [Option.map_some, Option.getD_some, Array.all_eq_true_iff_forall_mem] at h1
          have h2 := h1 e he
          rw [hb] at h2
          have h3 : e.on < i := by simpa using h2
          exact ih e.on h3 (by omega)
      rw [hr] at hmem
      cases hmem

theorem wpAny_rg (J : Array Bool → Act → World → Prop) (hac : acyc md ops = true)
    (hstep : ∀ i o, ops[i]? = some o → ∀ listed a w, listed.size = ops.size → J listed a w → listed.getD i false = false → (∀ e ∈ o.after, Region.binds md e = true → listed.getD e.on false = true) →
      wpOp P ops Q i (fun a' w' => J (listed.setIfInBounds i true) a' w') a w)
    (hend : ∀ listed a w, listed.size = ops.size → J listed a w → (∀ i, i < ops.size → listed.getD i false = true) → Q .normal a w) :
    ∀ (fuel : Nat) (listed : Array Bool) (a : Act) (w : World), listed.size = ops.size → ((List.range ops.size).filter fun i => !listed.getD i false).length ≤ fuel → J listed a w → wpAny P md ops Q fuel listed a w
  | 0, listed, a, w, hs, hc, hJ => by
    have hall : ∀ i, i < ops.size → listed.getD i false = true := fun i hi => by
      cases hl : listed.getD i false with
      | true => rfl
      | false =>
        exfalso
        have : i ∈ (List.range ops.size).filter fun i => !listed.getD i false := List.mem_filter.2 ⟨List.mem_range.2 hi, by rw [hl]; rfl⟩
        rw [List.eq_nil_of_length_eq_zero (Nat.le_zero.1 hc)] at this
        cases this
    refine ⟨?_, hend listed a w hs hJ hall⟩
    rw [List.eq_nil_iff_forall_not_mem]
    intro i hi
    obtain ⟨h1, o, ho, _⟩ := mem_ready.1 hi
    have hi' : i < ops.size := (Array.getElem?_eq_some_iff.1 ho).1
    have h2 := hall i hi'
    have : i < listed.size := by omega
    simp [Array.getD_eq_getD_getElem?, Array.getElem?_eq_getElem this] at h1 h2
    rw [h1] at h2
    cases h2
  | fuel + 1, listed, a, w, hs, hc, hJ => by
    refine ⟨fun hr => hend listed a w hs hJ (all_listed hac hs hr), fun i hi => ?_⟩
    obtain ⟨h1, o, ho, hall⟩ := mem_ready.1 hi
    have hi' : i < ops.size := (Array.getElem?_eq_some_iff.1 ho).1
    have hil : i < listed.size := by omega
    have h1' : listed.getD i false = false := by
      simpa [Array.getD_eq_getD_getElem?, Array.getElem?_eq_getElem hil] using h1
    refine wpOp_mono (fun a' w' hJ' => wpAny_rg J hac hstep hend fuel _ a' w' (by simpa using hs) ?_ hJ') (hstep i o ho listed a w hs hJ h1' hall)
    have := filter_lt (fun j => !listed.getD j false) (fun j => !(listed.setIfInBounds i true).getD j false) (fun x hx => by rw [getD_set hil] at hx; cases h : listed.getD x false <;> simp_all) i (by rw [h1']; rfl) (by rw [getD_set hil]; simp) (List.range ops.size) (List.mem_range.2 hi')
    omega

/-- The frame with the region's slots set. -/
def Act.puts : Act → List Nat → List Value → Act
  | a, d :: ds, v :: vs => Act.puts (a.put (some d) v) ds vs
  | a, _, _ => a

theorem put_self (a : Act) (d : Nat) : a.put (some d) (a.tmps.getD d undef) = a := by
  obtain ⟨tmps, defers⟩ := a
  simp only [Act.put]
  congr 1
  by_cases h : d < tmps.size
  · rw [Array.getD_eq_getD_getElem?, Array.getElem?_eq_getElem h]
    apply Array.ext
    · simp
    · intro j h1 h2
      by_cases e : d = j
      · subst e; simp
      · rw [Array.getElem_setIfInBounds_ne _ e]
  · apply Array.ext
    · simp
    · intro j h1 h2
      rw [Array.getElem_setIfInBounds_ne _ (by omega)]
theorem puts_self (a : Act) : ∀ ds : List Nat, Act.puts a ds (ds.map fun d => a.tmps.getD d undef) = a
  | [] => rfl
  | d :: ds => by
    show Act.puts (a.put (some d) (a.tmps.getD d undef)) ds (ds.map fun d => a.tmps.getD d undef) = a
    rw [put_self]
    exact puts_self a ds
/-- What has come up, has come up behind all that it waits for. -/
def closedFrom (L : Nat → Bool) : Nat → List Oper → Prop
  | _, [] => True
  | i, o :: os => (L i = true → (o.after.toList.all fun e => !Region.binds .any e || L e.on) = true) ∧ closedFrom L (i + 1) os
theorem closedFrom_mk {L : Nat → Bool} : ∀ {os : List Oper} {k : Nat}, (∀ i o, os[i]? = some o → L (k + i) = true → (o.after.toList.all fun e => !Region.binds .any e || L e.on) = true) → closedFrom L k os
  | [], _, _ => trivial
  | o :: os, k, h => ⟨fun hl => h 0 o (by simp) (by simpa using hl), closedFrom_mk (k := k + 1) fun i o' ho hl => h (i + 1) o' (by simpa using ho) (by rwa [show k + (i + 1) = k + 1 + i by omega])⟩
/-- One operation of such a region: from any set L of those that have come up. -/
def RgStep (P : Program) (ops : Array Oper) (Q : Exit → Act → World → Prop) (a : Act) (ds : List Nat) (Φ : (Nat → Bool) → List Value → World → Prop) (i : Nat) (o : Oper) : Prop :=
  ∀ (L : Nat → Bool) (vs : List Value) (w : World) (K : Act → World → Prop), Φ L vs w → L i = false → (o.after.toList.all fun e => !Region.binds .any e || L e.on) = true → closedFrom L 0 ops.toList →
    (∀ vs' w', Φ (fun j => L j || decide (j = i)) vs' w' → K (Act.puts a ds vs') w') →
    ∀ G : Prop, ((if Region.wanted o (yielded ops (Act.puts a ds vs).tmps) = true then Oper.wp P o (Act.puts a ds vs) w K Q else K ((Act.puts a ds vs).put o.dst undef) w) → G) → G
def RgSteps (P : Program) (ops : Array Oper) (Q : Exit → Act → World → Prop) (a : Act) (ds : List Nat) (Φ : (Nat → Bool) → List Value → World → Prop) : Nat → List Oper → Prop
  | _, [] => True
  | i, o :: os => RgStep P ops Q a ds Φ i o ∧ RgSteps P ops Q a ds Φ (i + 1) os
theorem RgSteps.at_ {a : Act} {ds : List Nat} {Φ : (Nat → Bool) → List Value → World → Prop} : ∀ {os : List Oper} {k i : Nat} {o : Oper}, RgSteps P ops Q a ds Φ k os → os[i]? = some o → RgStep P ops Q a ds Φ (k + i) o
  | [], _, i, _, _, h => by cases i <;> cases h
  | o' :: os, k, 0, o, h, ho => by
    have : o' = o := by simpa using ho
    subst this; exact h.1
  | o' :: os, k, i + 1, o, h, ho => by
    have := RgSteps.at_ (i := i) h.2 (by simpa using ho)
    rwa [show k + 1 + i = k + (i + 1) by omega] at this

theorem wp_region_rg {id : Nat} {a : Act} {w : World} (hm : P.follows .mixedOrders = true) (hac : acyc .any ops = true) (ds : List Nat)
    (Φ : (Nat → Bool) → List Value → World → Prop) (h0 : Φ (fun _ => false) (ds.map fun d => a.tmps.getD d undef) w.drew)
    (hs : RgSteps P ops Q a ds Φ 0 ops.toList)
    (hend : ∀ vs w', Φ (fun i => decide (i < ops.size)) vs w' → ∀ G : Prop, (Q .normal (Act.puts a ds vs) w' → G) → G) : (Code.region id ops true).wp P Q a w := by
  refine wp_region_any hm ?_
  refine wpAny_rg (md := .any) (fun listed a' w' => (∀ i o, ops[i]? = some o → listed.getD i false = true → ∀ e ∈ o.after, Region.binds .any e = true → listed.getD e.on false = true) ∧ ∃ vs, a' = Act.puts a ds vs ∧ Φ (fun i => listed.getD i false) vs w') hac ?_ ?_ _ _ _ _ (by simp) ?_ ⟨?_, _, (puts_self a ds).symm, ?_⟩
  · rintro i o ho listed a' w' hsz ⟨hcl, vs, rfl, hΦ⟩ hl hall
    have hi' : i < ops.size := (Array.getElem?_eq_some_iff.1 ho).1
    have hil : i < listed.size := by omega
    have hst := hs.at_ (i := i) (o := o) (by simpa using ho)
    rw [Nat.zero_add] at hst
    have := hst (fun j => listed.getD j false) vs w' (fun a' w' => (∀ k o, ops[k]? = some o → (listed.setIfInBounds i true).getD k false = true → ∀ e ∈ o.after, Region.binds .any e = true → (listed.setIfInBounds i true).getD e.on false = true) ∧ ∃ vs, a' = Act.puts a ds vs ∧ Φ (fun j => (listed.setIfInBounds i true).getD j false) vs w') hΦ hl
      (List.all_eq_true.2 fun e he => by
        cases hb : Region.binds .any e with
        | false => rfl
        | true => simpa using hall e (by simpa using he) hb)
      (closedFrom_mk fun j o' ho' hj => List.all_eq_true.2 fun e he => by
        cases hb : Region.binds .any e with
        | false => rfl
        | true => simpa using hcl j o' (by simpa using ho') (by simpa using hj) e (by simpa using he) hb)
      (fun vs' w'' hh => ⟨fun k o' ho' hk e he hb => by
        rw [getD_set hil] at hk ⊢
        rcases Bool.or_eq_true_iff.1 hk with hk | hk
        · rw [hcl k o' ho' hk e he hb]; rfl
        · have : k = i := by simpa using hk
          subst this
          have : o' = o := by rw [ho] at ho'; exact (Option.some.inj ho').symm
          subst this
          rw [hall e he hb]; rfl, vs', rfl, by
        have e : (fun j => (listed.setIfInBounds i true).getD j false) = fun j => listed.getD j false || decide (j = i) := funext fun j => getD_set hil false
        rw [e]; exact hh⟩) _ (fun h => h)
    unfold wpOp
    simp only [ho]
    split
    · rename_i hw
      rw [if_pos hw] at this
      exact .inl this
    · rename_i hw
      rw [if_neg hw] at this
      exact this
  · rintro listed a' w' hsz ⟨_, vs, rfl, hΦ⟩ hall
    refine hend vs w' ?_ _ (fun h => h)
    have e : (fun i => listed.getD i false) = fun i => decide (i < ops.size) := funext fun i => by
      by_cases hi : i < ops.size
      · rw [hall i hi]; simp [hi]
      · have : listed.size ≤ i := by omega
        simp [Array.getD_eq_getD_getElem?, Array.getElem?_eq_none this, hi]
    rw [← e]; exact hΦ
  · exact Nat.le_trans (List.length_filter_le _ _) (by simp)
  · intro i o ho hi
    exfalso
    by_cases h : i < ops.size
    · simp [Array.getD_eq_getD_getElem?, h] at hi
    · simp [Array.getD_eq_getD_getElem?, h] at hi
  · have e : (fun i => (Array.replicate ops.size false).getD i false) = fun _ => false := funext fun i => by
      by_cases hi : i < ops.size
      · simp [Array.getD_eq_getD_getElem?, hi]
      · simp [Array.getD_eq_getD_getElem?, hi]
    rw [e]; exact h0
end
def Lay (w : World) (X : Nat) (cs : List Value) : Prop := ∀ j u, cs[j]? = some u → w.cell? ((⟨X, 0, none⟩ : Addr).add j) = some u
theorem Lay.new (w : World) (cs : List Value) (T : TypeId) : Lay (w.alloc (.cells cs.toArray T)) w.heap.size cs := fun j u h => cell_new_block w cs T j u h
theorem Lay.alloc {w : World} {X : Nat} {cs : List Value} (h : Lay w X cs) (o : Obj) : Lay (w.alloc o) X cs := fun j u hj => by
  have := h j u hj
  exact (World.cell?_alloc_lt w _ _ (World.block_lt_of_cell? _ _ this)).trans this
theorem Lay.grown {w w' : World} {X : Nat} {cs : List Value} {row : Option Nat} (h : Lay w X cs) (hg : w.grownBy w' row) (hX : row ≠ some X) : Lay w' X cs := fun j u hj => by
  have := h j u hj
  exact hg.cell this (by rw [Go.WideShapes.add_plain]; exact Ne.symm hX)
section
variable {P : Program} {ops : Array Oper} {Q : Exit → Act → World → Prop}
theorem step_append_own (w : World) {o : Oper} {a : Act} {K : Act → World → Prop} {E : Prop} (hgd : o.guard = none) (s x : Operand) (t : TypeId)
    (ho : o.op = .call { callee := .builtin .append, args := #[s, x], argTypes := #[t, t] })
    (base : Nat) (e : TypeId) (i : TypeInfo) (z : Value) (size bytes : Nat) (ht : P.underlying t = some (.slice e)) (hi : P.info? e = some i) (hz : i.zero = some z)
    (hsize : i.size = size) (hby : i.bytes = bytes) (hzs : z.cells.size = size) (hsz : 0 < size)
    (v : Value) (n : Nat) (xs : List Value) (hs : a.eval s = v) (hown : w.ownsRow base e size v n xs)
    (ad : Addr) (m c : Nat) (news : List Value) (hx : a.eval x = .slice (some ad) m c) (hl : news.length = m * size) (hnews : ∀ j u, news[j]? = some u → w.cell? (ad.add j) = some u) (h1 : ∀ u ∈ news, u.oneCell' = true)
    (h63 : n + m ≤ maxLen) (hbytes : (n + m) * bytes ≤ 140737488355328) (hbase : base ≤ w.heap.size)
    (h : ∀ v' w', w'.ownsRow base e size v' (n + m) (xs ++ news) → w.grownBy w' v.ownBlock → (v'.ownBlock = v.ownBlock ∨ v'.ownBlock = some w.heap.size) → K (a.put o.dst v') w') :
    if Region.wanted o (yielded ops a.tmps) = true then Oper.wp P o a w K Q else E := by
  have hw : Region.wanted o (yielded ops a.tmps) = true := by simp [Region.wanted, hgd]
  rw [if_pos hw]
  obtain ⟨v', w', hr, h2, h3, _, h5⟩ := run_append_own_at (P := P) w base t o.type e i z size bytes ht hi hz hsize hby hzs hsz v n xs hown ad m c news hl hnews h1 h63 hbytes hbase
  unfold Oper.wp execOp
  simp only [ho, resolve, invoke, builtin, Sem.run_bind, Sem.run_pure, Result.andThen_ok, List.map_toArray, List.map_cons, List.map_nil, hs, hx, hr]
  exact h v' w' h2 h3 h5

theorem step_append_sl {α : Type} [Inhabited α] (w : World) {o : Oper} {a : Act} {K : Act → World → Prop} {E : Prop} (hgd : o.guard = none) (s x : Operand) (t : TypeId)
    (ho : o.op = .call { callee := .builtin .append, args := #[s, x], argTypes := #[t, t] })
    (base : Nat) (e : TypeId) (i : TypeInfo) (z : Value) (size bytes : Nat) (ht : P.underlying t = some (.slice e)) (hi : P.info? e = some i) (hz : i.zero = some z)
    (hsize : i.size = size) (hby : i.bytes = bytes) (hzs : z.cells.size = size) (hsz : 0 < size)
    (v : Value) (n : Nat) (cs : List Value) (hs : a.eval s = v) (hown : w.ownsRow base e size v n cs)
    (enc : α → List Value) (hk : ∀ y, (enc y).length = size) (h1 : ∀ y, ∀ u ∈ enc y, u.oneCell' = true)
    (A : Option Addr) (m c : Nat) (ys : List α) (hx : a.eval x = .slice A m c) (hm : ys.length = m) (hr : Sl size enc w A ys)
    (h63 : n + m ≤ maxLen) (hbytes : (n + m) * bytes ≤ 140737488355328) (hbase : base ≤ w.heap.size)
    (h : ∀ v' w', w'.ownsRow base e size v' (n + m) (cs ++ ys.flatMap enc) → w.grownBy w' v.ownBlock → (v'.ownBlock = v.ownBlock ∨ v'.ownBlock = some w.heap.size) → K (a.put o.dst v') w') :
    if Region.wanted o (yielded ops a.tmps) = true then Oper.wp P o a w K Q else E := by
  subst hm
  cases A with
  | none =>
    have hw : Region.wanted o (yielded ops a.tmps) = true := by simp [Region.wanted, hgd]
    rw [if_pos hw]
    have hy : ys = [] := by
      by_cases hy : ys = []
      · exact hy
      · obtain ⟨b, off, e, _⟩ := hr.cell hy
        cases e
    subst hy
    have hrun := append_nothing (P := P) w base t o.type e i size ht hi v n cs hown c
    unfold Oper.wp execOp
    simp only [ho, resolve, invoke, builtin, Sem.run_bind, Sem.run_pure, Result.andThen_ok, List.map_toArray, List.map_cons, List.map_nil, hs, hx]
    rw [show ([] : List α).length = 0 from rfl, hrun]
    exact h v w (by simpa using hown) (World.grownBy.refl w _) (.inl rfl)
  | some ad =>
    refine step_append_own w hgd s x t ho base e i z size bytes ht hi hz hsize hby hzs hsz v n cs hs hown ad ys.length c (ys.flatMap enc) hx (flat_length hk ys) (fun j u hj => hr.flat hk hsz rfl j u hj) (fun u hu => ?_) h63 hbytes hbase h
    obtain ⟨y, _, hy⟩ := List.mem_flatMap.1 hu
    exact h1 y u hy
/-- A call of a Go function, by its contract, as one step. -/
theorem step_call {P : Program} {ops : Array Oper} {Q : Exit → Act → World → Prop} (w : World) {o : Oper} {a : Act} {K : Act → World → Prop} {E : Prop} (hgd : o.guard = none) (f : Nat) (xs : Array Operand) (ts : Array TypeId)
    (ho : o.op = .call { callee := .value (.func f), args := xs, argTypes := ts }) (args : Array Value) (ha : xs.map a.eval = args) (eg : ∀ args w, (callFunc f args).run P w = .ok (.enter f args) w)
    {Post : Ending → World → Prop} (hc : Calls P f args w Post) (h : ∀ e w', Post e w' → ∃ v, e = .returned v ∧ K (a.put o.dst v) w') :
    if Region.wanted o (yielded ops a.tmps) = true then Oper.wp P o a w K Q else E := by
  have hw : Region.wanted o (yielded ops a.tmps) = true := by simp [Region.wanted, hgd]
  rw [if_pos hw]
  have hr : (execOp a.eval o).run P w = .ok (.enter f args) w := by
    unfold execOp
    simp [ho, resolve, ha, Act.eval, Deferred.ofValue, invoke, eg]
  unfold Oper.wp
  rw [hr]
  refine hc.mono fun e w' hp => ?_
  obtain ⟨v, rfl, hk⟩ := h e w' hp
  exact hk
end
end Go.Proofs.Ytdndanjabknjpaa
