/- Walks of the library's functions that link calls: Insert of one element. -/
import Derived.Test.YtjnpdicoopgkoaaD
import Derived.Lib.AppendZerosOnto
import Derived.Lib.AppendZeros
import Derived.Lib.Overlaps
import Derived.Laws.Externs
import Derived.Laws.LoneSync
namespace Go.Proofs.Ytjnpdicoopgkoaa
open Go.RowKit Go.Lib
set_option linter.unusedVariables false

theorem wp_copy_run {P : Program} (w : World) {o : Oper} {a : Act} {K : Act → World → Prop} {Q : Exit → Act → World → Prop} (d s : Operand) (t t' : TypeId)
    (ho : o.op = .call { callee := .builtin .copy, args := #[d, s], argTypes := #[t, t'] }) (v u : Value) (hd : a.eval d = v) (hs : a.eval s = u) {v' : Value} {w' : World}
    (hr : (Builtin.copy_ #[t, t'] o.type #[v, u]).run P w = .ok v' w') (h : K (a.put o.dst v') w') : o.wp P a w K Q := by
  unfold Oper.wp execOp
  simp only [ho, resolve, invoke, builtin, Sem.run_bind, Sem.run_pure, Result.andThen_ok, List.map_toArray, List.map_cons, List.map_nil, hd, hs, hr]
  exact h
theorem wpList_copy_run {P : Program} (w : World) {ops : Array Oper} {rest : List Oper} {o : Oper} {a : Act} {Q : Exit → Act → World → Prop} (hgd : o.guard = none) (d s : Operand) (t t' : TypeId)
    (ho : o.op = .call { callee := .builtin .copy, args := #[d, s], argTypes := #[t, t'] }) (v u : Value) (hd : a.eval d = v) (hs : a.eval s = u) {v' : Value} {w' : World}
    (hr : (Builtin.copy_ #[t, t'] o.type #[v, u]).run P w = .ok v' w') (h : wpList P ops Q rest (a.put o.dst v') w') : wpList P ops Q (o :: rest) a w :=
  wpList_plain hgd fun _ hK => wp_copy_run w d s t t' ho v u hd hs hr (hK _ _ h)
theorem step_copy_run {P : Program} {ops : Array Oper} {o : Oper} {a : Act} {w : World} {K : Act → World → Prop} {Q : Exit → Act → World → Prop} {E : Prop}
    (hg : o.guard = none) (d x : Operand) (dT sT : TypeId) (hop : o.op = Op.call { callee := Callee.builtin Builtin.copy, args := #[d, x], argTypes := #[dT, sT] })
    (v u : Value) (hd : a.eval d = v) (hx : a.eval x = u) {v' : Value} {w' : World} (hr : (Builtin.copy_ #[dT, sT] o.type #[v, u]).run P w = .ok v' w') (hK : K (a.put o.dst v') w') :
    if Region.wanted o (yielded ops a.tmps) = true then Oper.wp P o a w K Q else E := by
  have hw : Region.wanted o (yielded ops a.tmps) = true := by simp [Region.wanted, hg]
  rw [if_pos hw]
  exact wp_copy_run w d x dT sT hop v u hd hx hr hK

/-- What an insertion leaves. -/
def Inserted (w : World) (base : Nat) (A : Option Addr) (n c : Nat) (l : List Pce) (e : Ending) (w' : World) : Prop :=
  ∃ A' c', e = .returned (.slice A' (n + 1) c') ∧ w'.ownsRow base 34 2 (.slice A' (n + 1) c') (n + 1) (l.flatMap Pce.enc) ∧ w.grownBy w' (Value.slice A n c).ownBlock ∧ ((Value.slice A' (n + 1) c').ownBlock = (Value.slice A n c).ownBlock ∨ (Value.slice A' (n + 1) c').ownBlock = some w.heap.size)
theorem lay_of_block {w : World} {X : Nat} {cs : List Value} {T : TypeId} (h : w.heap[X]? = some (.cells cs.toArray T)) : Lay w X cs := fun j u hj => by
  rw [Go.WideShapes.add_plain, Nat.zero_add, cell_of_row _ X j cs.toArray T (0, 0) h]
  simpa using hj

set_option maxHeartbeats 4000000 in
theorem insert_end (base : Nat) (A : Option Addr) (c n : Nat) (xs : List Pce) (x : Pce) (X : Nat) (w : World)
    (hown : w.ownsRow base 34 2 (.slice A n c) n (xs.flatMap Pce.enc)) (hn : xs.length = n) (hn1 : n ≤ 1000000) (hX : w.heap[X]? = some (.cells (Pce.enc x).toArray 34)) (hb : base ≤ w.heap.size) :
    Calls Try.prog 17 #[.slice A n c, .int .i64 n, .slice (some ⟨X, 0, none⟩) 1 1] w (Inserted w base A n c (xs ++ [x])) := by
  obtain ⟨i0, hi, hz0, hz1, hz2⟩ := info_parts info34
  obtain ⟨hcap, hcapm⟩ := own_cap hown
  have hcapz : c ≤ 9223372036854775807 := by unfold maxLen at hcapm; omega
  have HO := Lib.hid hown
  have HX := Lib.hid hX
  have hcs : (xs ++ [x]).flatMap Pce.enc = xs.flatMap Pce.enc ++ Pce.enc x := by simp
  have HC := Lib.hid hcs
  clear hown hX hcapm hn hcs
  have hz : (n : Int) ≤ (c : Int) := by omega
  by_cases hc : c = n
  · subst hc
    go_enter Try.func17, Try.ntmps17
    go_wp2_with (at_builtin; refine wpList_append_own_at _ rfl _ _ 25 rfl base 34 i0 _ 2 16 Try.underlying25 hi hz0 hz1 hz2 rfl (by decide) _ _ _ rfl HO.out ⟨X, 0, none⟩ 1 1 (Pce.enc x) rfl rfl (lay_of_block HX.out) (Pce.enc_one x) ?_ ?_ hb ?_)
    · unfold maxLen; omega
    · omega
    intro v' w1 own1 grow1 nil1 at1
    obtain ⟨A', c', rfl⟩ := own_shape own1
    go_wp2_with fail
    go_ret
    exact ⟨A', c', rfl, by rw [HC.out]; exact own1, grow1, at1⟩
  · skip
    go_enter Try.func17, Try.ntmps17
    go_wp2_with (at_builtin; refine wpList_append_own_at _ rfl _ _ 25 rfl base 34 i0 _ 2 16 Try.underlying25 hi hz0 hz1 hz2 rfl (by decide) _ _ _ rfl HO.out ⟨X, 0, none⟩ 1 1 (Pce.enc x) rfl rfl (lay_of_block HX.out) (Pce.enc_one x) ?_ ?_ hb ?_)
    · unfold maxLen; omega
    · omega
    intro v' w1 own1 grow1 nil1 at1
    obtain ⟨A', c', rfl⟩ := own_shape own1
    go_wp2_with fail
    go_ret
    exact ⟨A', c', rfl, by rw [HC.out]; exact own1, grow1, at1⟩

theorem shift1 {k : Nat} (T M D ex : List Value) (hM : M.length = k) (hex : ex.length = k) : setAll (T ++ M ++ D ++ ex) (T.length + k) (M ++ D) = T ++ M ++ (M ++ D) := by
  have h := setAll_at (M ++ D) (T ++ M) (D ++ ex) (by simp; omega)
  rw [List.length_append, hM] at h
  have e : (D ++ ex).drop (M ++ D).length = [] := List.drop_eq_nil_of_le (by simp; omega)
  rw [e, List.append_nil, ← List.append_assoc] at h
  exact h
theorem shift2 {k : Nat} (T M D E : List Value) (hM : M.length = k) (hE : E.length = k) : setAll (T ++ M ++ (M ++ D)) T.length E = T ++ E ++ (M ++ D) := by
  have h := setAll_at E T (M ++ (M ++ D)) (by simp; omega)
  have e : (M ++ (M ++ D)).drop E.length = M ++ D := by rw [hE, ← hM, List.drop_left]
  rw [e, ← List.append_assoc] at h
  exact h

set_option maxHeartbeats 8000000 in
set_option maxRecDepth 100000 in
theorem insert_room (base b c n i : Nat) (xs : List Pce) (x : Pce) (X : Nat) (w : World)
    (hown : w.ownsRow base 34 2 (.slice (some ⟨b, 0, none⟩) n c) n (xs.flatMap Pce.enc)) (hn : xs.length = n) (hn1 : n ≤ 1000000) (hX : w.heap[X]? = some (.cells (Pce.enc x).toArray 34)) (hne : X ≠ b) (hi : i < n) (hroom : n + 1 ≤ c) :
    Calls Try.prog 17 #[.slice (some ⟨b, 0, none⟩) n c, .int .i64 i, .slice (some ⟨X, 0, none⟩) 1 1] w (Inserted w base (some ⟨b, 0, none⟩) n c (xs.take i ++ x :: xs.drop i)) := by
  obtain ⟨hcap, hcapm⟩ := own_cap hown
  have hcapz : c ≤ 9223372036854775807 := by unfold maxLen at hcapm; omega
  obtain ⟨ex, hexl, own1⟩ := own_extend hown 1 hroom
  have hsz : (Try.prog.info? 34).map (·.size) = some 2 := by kernel_rfl
  obtain ⟨T, hT⟩ : ∃ T, T = (xs.take i).flatMap Pce.enc := ⟨_, rfl⟩
  obtain ⟨M, hM⟩ : ∃ M, M = Pce.enc xs[i]! := ⟨_, rfl⟩
  obtain ⟨D, hD⟩ : ∃ D, D = (xs.drop (i + 1)).flatMap Pce.enc := ⟨_, rfl⟩
  have lT : T.length = i * 2 := by rw [hT, flat_length Pce.enc_len, List.length_take, hn]; congr 1; omega
  have lM : M.length = 2 := by rw [hM]; rfl
  have lD : D.length = (n - (i + 1)) * 2 := by rw [hD, flat_length Pce.enc_len, List.length_drop, hn]
  have hdrop : (xs.drop i).flatMap Pce.enc = M ++ D := by
    rw [hM, hD, List.drop_eq_getElem_cons (by omega), List.flatMap_cons, ← getElem!_pos xs i (by omega)]
  have hall : xs.flatMap Pce.enc = T ++ M ++ D := by
    rw [List.append_assoc, ← hdrop, hT, ← List.flatMap_append, List.take_append_drop]
  have hres : (xs.take i ++ x :: xs.drop i).flatMap Pce.enc = T ++ Pce.enc x ++ (M ++ D) := by
    rw [List.flatMap_append, List.flatMap_cons, hdrop, hT, List.append_assoc]
  have one : ∀ v ∈ M ++ D, v.oneCell' = true := by
    rw [← hdrop]
    intro v hv
    obtain ⟨y, _, hy⟩ := List.mem_flatMap.1 hv
    exact Pce.enc_one y v hy
  have c0 : w.cell? ⟨b, 0, none⟩ = some (.int .i64 xs[0]!.num) := own_cell hown 0 _ (flat_at Pce.enc_len xs 0 0 _ (by omega) rfl)
  rw [hall] at own1
  have HRES := Lib.hid hres
  clear hT hM hD hdrop hall hres hown
  have own1d : w.drew.ownsRow base 34 2 (.slice (some ⟨b, 0, none⟩) (n + 1) c) (n + 1) (T ++ M ++ D ++ ex) := own1
  have own2 := own_setCells (M ++ D) _ _ ((i + 1) * 2) own1d
  have e2 := shift1 T M D ex lM (by omega)
  rw [lT, show i * 2 + 2 = (i + 1) * 2 by omega] at e2
  rw [e2] at own2
  have own3' := own_setCells (Pce.enc x) _ _ (i * 2) own2
  have e3 := shift2 T M D (Pce.enc x) lM rfl
  rw [lT] at e3
  rw [e3] at own3'
  have lMD : (M ++ D).length = (n - i) * 2 := by rw [List.length_append, lM, lD]; omega
  have G1 : w.grownBy w.drew (some b) := ⟨rfl, rfl, rfl, Nat.le_refl _, fun _ _ _ => rfl⟩
  have G2 := grown_setCells (M ++ D) w.drew ((i + 1) * 2) G1
  have G3 := grown_setCells (Pce.enc x) _ (i * 2) G2
  have hXlt : X < w.heap.size := by
    rcases Nat.lt_or_ge X w.heap.size with h | h
    · exact h
    · rw [Array.getElem?_eq_none h] at hX; cases hX
  have hcp1 : ∀ ty, (Builtin.copy_ #[25, 25] ty #[.slice (some ⟨b, (i + 1) * 2, none⟩) (n + 1 - (i + 1)) (c - (i + 1)), .slice (some ⟨b, i * 2, none⟩) (n + 1 - i) (c - i)]).run Try.prog w.drew = .ok (goInt (Nat.min (n + 1 - i) (n + 1 - (i + 1)))) (w.drew.setCells b ((i + 1) * 2) (M ++ D)) := fun ty =>
    run_copy_k w.drew 25 25 ty 34 2 b ((i + 1) * 2) _ _ ⟨b, i * 2, none⟩ _ _ _ Try.underlying25 hsz (by rw [lMD]; show (n - i) * 2 = min (n + 1 - i) (n + 1 - (i + 1)) * 2; congr 1; omega)
      (fun j v hj => by
        rw [Go.WideShapes.add_plain]
        refine own_cell own1d (i * 2 + j) v ?_
        rw [List.append_assoc T, List.append_assoc T, List.getElem?_append_right (by rw [lT]; omega), lT, Nat.add_sub_cancel_left, List.getElem?_append_left (List.getElem?_eq_some_iff.1 hj).1]
        exact hj)
      (fun j hj => own_there own1d _ (by rw [lMD] at hj; omega)) (fun j _ => own_frozen own1d _) one
  obtain ⟨W2, hW2⟩ : ∃ W2, W2 = w.drew.setCells b ((i + 1) * 2) (M ++ D) := ⟨_, rfl⟩
  rw [← hW2] at hcp1 own2 G2 own3' G3
  have hX2 : W2.heap[X]? = some (.cells (Pce.enc x).toArray 34) := by rw [G2.block X hXlt (fun e => hne (by simpa using e))]; exact hX
  have hcp2 : ∀ ty, (Builtin.copy_ #[25, 25] ty #[.slice (some ⟨b, i * 2, none⟩) (n + 1 - i) (c - i), .slice (some ⟨X, 0, none⟩) 1 1]).run Try.prog W2 = .ok (goInt (Nat.min 1 (n + 1 - i))) (W2.setCells b (i * 2) (Pce.enc x)) := fun ty =>
    run_copy_k W2 25 25 ty 34 2 b (i * 2) _ _ ⟨X, 0, none⟩ _ _ _ Try.underlying25 hsz (by rw [show Nat.min 1 (n + 1 - i) = 1 from Nat.min_eq_left (by omega)]; rfl)
      (lay_of_block hX2) (fun j hj => own_there own2 _ (by rw [Pce.enc_len] at hj; omega)) (fun j _ => own_frozen own2 _) (Pce.enc_one x)
  obtain ⟨eb, kb, hsb, hkb, _⟩ := World.shape?_of_cell? c0
  obtain ⟨ea, ka, hsa, hka, _⟩ := World.shape?_of_cell? (w := w) (a := ⟨X, 0, none⟩) (v := .int .i64 x.num) (lay_of_block hX 0 _ rfl)
  have hfX : ∀ j, w.frozen? ⟨X, j, none⟩ = false := fun j => by simp [World.frozen?, hX]
  have hov : ∀ lb cb, (callFunc 22 #[.slice (some ⟨X, 0, none⟩) 1 1, .slice (some ⟨b, (i + 1) * 2, none⟩) lb cb]).run Try.prog w = .ok (.value (.bool false)) w := fun lb cb => by
    rw [run_callFunc_extern Try.func22 (by kernel_rfl) (by kernel_rfl) (by kernel_rfl) (e := Extern.SlicesOverlaps.overlaps #[25, 25] #[4]) (by kernel_rfl),
      Lib.run_overlaps_apart w 25 4 34 Try.underlying25 2 (fun _ => by kernel_rfl) ⟨X, 0, none⟩ ⟨b, (i + 1) * 2, none⟩ 1 1 lb cb hne ea eb ka kb hsa hsb (by simp at hkb; omega) (hfX _) (hfX _)]
    rfl
  have hw1 : IntKind.i64.wrap ((i : Int) + 1) = (i : Int) + 1 := by rw [IntWalk.i64_in _ (by omega)]
  have hz2 : ((i : Int) == (n : Int)) = false := by rw [beq_eq_false_iff_ne]; omega
  have hb1 : (0 : Int) ≤ (i : Int) + 1 := by omega
  have htn : ((i : Int) + 1).toNat = i + 1 := by omega
  have hb2 : ¬ (c = i + 1) := by omega
  have hb3 : (i : Int) ≤ (n : Int) + 1 := by omega
  have hb4 : ¬ (c = i) := by omega
  have hb5 : (i : Int) + 1 ≤ (n : Int) + 1 := by omega
  have HC1 := Lib.hid hcp1
  have HC2 := Lib.hid hcp2
  have HO3 := Lib.hid own3'
  clear hcp1 hcp2 own3' own1 own1d own2 e2 e3 lT lM lD lMD one hsa hsb hfX hka hkb c0 hX hX2 hexl hW2 G1 G2 hsz
  go_enter Try.func17, Try.ntmps17
  go_wp2_with (simp only [hov])
  go_region_law (refine step_copy_run rfl (.tmp 73) (.tmp 76) 25 25 rfl (.slice (some ⟨b, (i + 1) * 2, none⟩) (n + 1 - (i + 1)) (c - (i + 1))) (.slice (some ⟨b, i * 2, none⟩) (n + 1 - i) (c - i)) (by simp [Act.eval, Act.put]) (by simp [Act.eval, Act.put]) (HC1.out _) ?_)
  all_goals (
    go_wp2_with (with_reducible refine wpList_copy_run _ rfl (.tmp 80) (.tmp 81) 25 25 rfl _ _ rfl rfl (HC2.out _) ?_)
    go_ret
    exact ⟨some ⟨b, 0, none⟩, c, rfl, by rw [HRES.out]; exact HO3.out, G3, .inl rfl⟩)

theorem grown_new {w W : World} {row : Option Nat} {g j : Nat} (h : w.grownBy W row) (hg : w.heap.size ≤ g) (u : Value) : w.grownBy (W.setCell ⟨g, j, none⟩ u) row :=
  ⟨h.os, h.tape, h.output, by simpa using h.size, fun i hi hne => by
    rw [← h.block i hi hne]
    have : g ≠ i := by omega
    simp [World.setCell, Array.getElem?_modify, this]⟩
theorem grown_news {w : World} {row : Option Nat} {g : Nat} (hg : w.heap.size ≤ g) : ∀ (vs : List Value) (W : World) (o : Nat), w.grownBy W row → w.grownBy (W.setCells g o vs) row
  | [], _, _, h => h
  | v :: vs, W, o, h => grown_news hg vs (W.setCell ⟨g, o, none⟩ v) (o + 1) (grown_new h hg v)
theorem block_setCells {g X : Nat} (hne : g ≠ X) : ∀ (vs : List Value) (W : World) (o : Nat), (W.setCells g o vs).heap[X]? = W.heap[X]?
  | [], _, _ => rfl
  | v :: vs, W, o => by
    rw [World.setCells, block_setCells hne vs]
    simp [World.setCell, Array.getElem?_modify, hne]

set_option maxHeartbeats 8000000 in
set_option maxRecDepth 100000 in
theorem insert_grow (base b c n i : Nat) (xs : List Pce) (x : Pce) (X : Nat) (w : World)
    (hown : w.ownsRow base 34 2 (.slice (some ⟨b, 0, none⟩) n c) n (xs.flatMap Pce.enc)) (hn : xs.length = n) (hn1 : n ≤ 1000000) (hX : w.heap[X]? = some (.cells (Pce.enc x).toArray 34)) (hne : X ≠ b) (hi : i < n) (hroom : c < n + 1) :
    Calls Try.prog 17 #[.slice (some ⟨b, 0, none⟩) n c, .int .i64 i, .slice (some ⟨X, 0, none⟩) 1 1] w (Inserted w base (some ⟨b, 0, none⟩) n c (xs.take i ++ x :: xs.drop i)) := by
  obtain ⟨hcap, hcapm⟩ := own_cap hown
  have hsz : (Try.prog.info? 34).map (·.size) = some 2 := by kernel_rfl
  obtain ⟨i0, hi0, hz0, hzs, hzb⟩ := info_parts info34
  obtain ⟨T, hT⟩ : ∃ T, T = (xs.take i).flatMap Pce.enc := ⟨_, rfl⟩
  obtain ⟨R, hR⟩ : ∃ R, R = (xs.drop i).flatMap Pce.enc := ⟨_, rfl⟩
  have lT : T.length = i * 2 := by rw [hT, flat_length Pce.enc_len, List.length_take, hn]; congr 1; omega
  have lR : R.length = (n - i) * 2 := by rw [hR, flat_length Pce.enc_len, List.length_drop, hn]
  have hall : xs.flatMap Pce.enc = T ++ R := by rw [hT, hR, ← List.flatMap_append, List.take_append_drop]
  have hres : (xs.take i ++ x :: xs.drop i).flatMap Pce.enc = T ++ (Pce.enc x ++ R) := by
    rw [List.flatMap_append, List.flatMap_cons, hT, hR]
  have one : ∀ v ∈ R, v.oneCell' = true := by
    rw [hR]
    intro v hv
    obtain ⟨y, _, hy⟩ := List.mem_flatMap.1 hv
    exact Pce.enc_one y v hy
  rw [hall] at hown
  have HRES := Lib.hid hres
  clear hT hR hall hres
  have hblt := (hown.lt b rfl)
  have hXlt : X < w.heap.size := by
    rcases Nat.lt_or_ge X w.heap.size with h | h
    · exact h
    · rw [Array.getElem?_eq_none h] at hX; cases hX
  have hold : (Builtin.firstCells i0.size i (.slice (some ⟨b, 0, none⟩) i c)).run Try.prog w.drew = .ok T.toArray w.drew := by
    rw [hzs]
    exact run_firstCells_some w.drew 2 i ⟨b, 0, none⟩ i c T lT (fun j v hj => by
      rw [Go.WideShapes.add_plain, Nat.zero_add]
      exact own_cell hown j v (by rw [List.getElem?_append_left (List.getElem?_eq_some_iff.1 hj).1]; exact hj))
  have hkk : (n : Int) + 1 - (i : Int) = ((n + 1 - i : Nat) : Int) := by omega
  have hik : i + (n + 1 - i) = n + 1 := by omega
  obtain ⟨G, hG⟩ : ∃ G, G = grownCap w (n + 1) c 34 := ⟨_, rfl⟩
  obtain ⟨ROW, hROW⟩ : ∃ ROW : Array Value, ROW = T.toArray ++ Builtin.zeroCells (Value.cells (.agg #[.int .i64 0, .int .u32 0])) (n + 1 - i) ++ Builtin.zeroCells (Value.cells (.agg #[.int .i64 0, .int .u32 0])) (G - (n + 1)) := ⟨_, rfl⟩
  have hrz : ∀ ty, (Builtin.append_ #[25, 3] ty #[.slice (some ⟨b, 0, none⟩) i c, .int .i64 ((n : Int) + 1 - (i : Int))]).run Try.prog w = .ok (.slice (some ⟨w.heap.size, 0, none⟩) (n + 1) G) (w.drew.alloc (.cells ROW 34)) := fun ty => by
    have h := Lib.run_append_grow_zeros w 25 3 ty 34 i0 _ .i64 .i64 Try.underlying25 Try.underlying3 hi0 hz0 (some ⟨b, 0, none⟩) i c T hold (n + 1 - i) (by omega) (by omega) (by omega) (by omega) (by rw [hzb]; omega) (by rw [hzb, hik]; exact growslice_fits (by omega) (by omega))
    rw [hik, ← hG, ← hROW] at h
    rw [hkk]
    exact h
  have hGn : n + 1 ≤ G := by rw [hG]; exact grownCap_ge w _ _ _
  have hG63 : G ≤ maxLen := by rw [hG]; exact grownCap_le_maxLen w (n + 1) c 34 (by unfold maxLen; omega)
  have hG64 : G ≤ 9223372036854775807 := by unfold maxLen at hG63; exact hG63
  obtain ⟨Z, hZ⟩ : ∃ Z, Z = (Builtin.zeroCells (Value.cells (.agg #[.int .i64 0, .int .u32 0])) (n + 1 - i)).toList := ⟨_, rfl⟩
  have lZ : Z.length = (n + 1 - i) * 2 := by rw [hZ, zeroCells_len]; rfl
  have hRl : ROW.toList = T ++ Z ++ (Builtin.zeroCells (Value.cells (.agg #[.int .i64 0, .int .u32 0])) (G - (n + 1))).toList := by rw [hROW, hZ]; simp
  have hRs : ROW.size = G * 2 := by
    rw [← Array.length_toList, hRl, List.length_append, List.length_append, lT, lZ, zeroCells_len]
    show i * 2 + (n + 1 - i) * 2 + (G - (n + 1)) * 2 = G * 2
    omega
  obtain ⟨W1, hW1⟩ : ∃ W1, W1 = w.drew.alloc (.cells ROW 34) := ⟨_, rfl⟩
  rw [← hW1] at hrz
  have own1 : W1.ownsRow base 34 2 (.slice (some ⟨w.heap.size, 0, none⟩) (n + 1) G) (n + 1) (T ++ Z) := by
    refine ⟨by rw [List.length_append, lT, lZ]; omega, .inr ⟨w.heap.size, G, ROW, rfl, by omega, by rw [hW1]; exact heap_alloc_new w.drew _, hGn, hG63, hRs, ?_⟩⟩
    rw [hRl]
    exact List.take_left' (by rw [List.length_append, lT, lZ]; omega)
  have G1 : w.grownBy W1 (some b) := by
    rw [hW1]
    have hd : w.grownBy w.drew (some b) := ⟨rfl, rfl, rfl, Nat.le_refl _, fun _ _ _ => rfl⟩
    exact grown_alloc hd _
  have hold1 : W1.ownsRow base 34 2 (.slice (some ⟨b, 0, none⟩) n c) n (T ++ R) := by
    rw [hW1]
    exact World.ownsRow.alloc (show w.drew.ownsRow base 34 2 (.slice (some ⟨b, 0, none⟩) n c) n (T ++ R) from hown) _
  have hX1 : W1.heap[X]? = some (.cells (Pce.enc x).toArray 34) := by rw [G1.block X hXlt (fun e => hne (by simpa using e))]; exact hX
  have hbN : b ≠ w.heap.size := by omega
  have hcpA : ∀ ty, (Builtin.copy_ #[25, 25] ty #[.slice (some ⟨w.heap.size, i * 2, none⟩) (n + 1 - i) (G - i), .slice (some ⟨X, 0, none⟩) 1 1]).run Try.prog W1 = .ok (goInt (Nat.min 1 (n + 1 - i))) (W1.setCells w.heap.size (i * 2) (Pce.enc x)) := fun ty =>
    run_copy_k W1 25 25 ty 34 2 w.heap.size (i * 2) _ _ ⟨X, 0, none⟩ _ _ _ Try.underlying25 hsz (by rw [show Nat.min 1 (n + 1 - i) = 1 from Nat.min_eq_left (by omega)]; rfl)
      (lay_of_block hX1) (fun j hj => own_there own1 _ (by rw [Pce.enc_len] at hj; omega)) (fun j _ => own_frozen own1 _) (Pce.enc_one x)
  have own2 := own_setCells (Pce.enc x) _ _ (i * 2) own1
  have e2 := setAll_at (Pce.enc x) T Z (by rw [lZ, Pce.enc_len]; omega)
  rw [lT] at e2
  rw [e2] at own2
  have G2 := grown_news (Nat.le_refl _) (Pce.enc x) W1 (i * 2) G1
  have hold2 : (W1.setCells w.heap.size (i * 2) (Pce.enc x)).ownsRow base 34 2 (.slice (some ⟨b, 0, none⟩) n c) n (T ++ R) :=
    hold1.kept (row := some w.heap.size) ⟨(grown_news (Nat.le_refl _) (Pce.enc x) W1 (i * 2) G1).os.trans G1.os.symm, (grown_news (Nat.le_refl _) (Pce.enc x) W1 (i * 2) G1).tape.trans G1.tape.symm, (grown_news (Nat.le_refl _) (Pce.enc x) W1 (i * 2) G1).output.trans G1.output.symm, (grown_setCells (Pce.enc x) W1 (i * 2) (World.grownBy.refl W1 (some w.heap.size))).size, (grown_setCells (Pce.enc x) W1 (i * 2) (World.grownBy.refl W1 (some w.heap.size))).block⟩ (.inr (by simp [Value.ownBlock]; exact hbN))
  obtain ⟨W2, hW2⟩ : ∃ W2, W2 = W1.setCells w.heap.size (i * 2) (Pce.enc x) := ⟨_, rfl⟩
  rw [← hW2] at hcpA own2 G2 hold2
  have own2d : W2.drew.ownsRow base 34 2 (.slice (some ⟨w.heap.size, 0, none⟩) (n + 1) G) (n + 1) (T ++ Pce.enc x ++ Z.drop (Pce.enc x).length) := own2
  have hold2d : W2.drew.ownsRow base 34 2 (.slice (some ⟨b, 0, none⟩) n c) n (T ++ R) := hold2
  have own3 := own_setCells R _ _ ((i + 1) * 2) own2d
  have e3 := setAll_at R (T ++ Pce.enc x) (Z.drop (Pce.enc x).length) (by rw [List.length_drop, lZ, lR, Pce.enc_len]; omega)
  have hzz : (Z.drop (Pce.enc x).length).drop R.length = [] := List.drop_eq_nil_of_le (by rw [List.length_drop, lZ, lR, Pce.enc_len]; omega)
  rw [hzz, List.append_nil, List.length_append, lT, Pce.enc_len, show i * 2 + 2 = (i + 1) * 2 by omega] at e3
  rw [Pce.enc_len, e3, List.append_assoc, ← HRES.out] at own3
  have G3 : w.grownBy (W2.drew.setCells w.heap.size ((i + 1) * 2) R) (some b) := grown_news (Nat.le_refl _) R W2.drew _ ⟨G2.os, G2.tape, G2.output, G2.size, G2.block⟩
  have hcpB : ∀ ty, (Builtin.copy_ #[25, 25] ty #[.slice (some ⟨w.heap.size, (i + 1) * 2, none⟩) (n + 1 - (i + 1)) (G - (i + 1)), .slice (some ⟨b, i * 2, none⟩) (n - i) (c - i)]).run Try.prog W2.drew = .ok (goInt (Nat.min (n - i) (n + 1 - (i + 1)))) (W2.drew.setCells w.heap.size ((i + 1) * 2) R) := fun ty =>
    run_copy_k W2.drew 25 25 ty 34 2 w.heap.size ((i + 1) * 2) _ _ ⟨b, i * 2, none⟩ _ _ _ Try.underlying25 hsz (by rw [lR]; show (n - i) * 2 = min (n - i) (n + 1 - (i + 1)) * 2; congr 1; omega)
      (fun j v hj => by
        rw [Go.WideShapes.add_plain]
        refine own_cell hold2d (i * 2 + j) v ?_
        rw [List.getElem?_append_right (by rw [lT]; omega), lT, Nat.add_sub_cancel_left]
        exact hj)
      (fun j hj => own_there own2d _ (by rw [lR] at hj; omega)) (fun j _ => own_frozen own2d _) one
  have hw1 : IntKind.i64.wrap ((i : Int) + 1) = (i : Int) + 1 := by rw [IntWalk.i64_in _ (by omega)]
  have hz2 : ((i : Int) == (n : Int)) = false := by rw [beq_eq_false_iff_ne]; omega
  have hz3 : (c : Int) < (n : Int) + 1 := by omega
  have hb1 : (0 : Int) ≤ (i : Int) + 1 := by omega
  have htn : ((i : Int) + 1).toNat = i + 1 := by omega
  have hb2 : ¬ (G = i + 1) := by omega
  have hb4 : ¬ (c = i) := by omega
  have hb5 : ¬ (G = i) := by omega
  have hb6 : (i : Int) ≤ (n : Int) + 1 := by omega
  have hb7 : (i : Int) + 1 ≤ (n : Int) + 1 := by omega
  have hb8 : (i : Int) ≤ (n : Int) := by omega
  have HRZ := Lib.hid hrz
  have HCA := Lib.hid hcpA
  have HCB := Lib.hid hcpB
  have HO3 := Lib.hid own3
  clear hrz hcpA hcpB own3 own1 own2 own2d hold1 hold2 hold2d e2 e3 lT lR lZ one hX hX1 hW1 hW2 G1 G2 hsz hG hROW hZ hRl hRs hold hkk hik hown hi0 hz0 hzs hzb hzz
  go_enter Try.func17, Try.ntmps17
  go_wp2_with (first
    | (at_builtin; refine Lib.wpList_append_run _ rfl _ _ 25 3 rfl _ _ rfl rfl _ _ (HRZ.out _) ?_)
    | (with_reducible refine wpList_copy_run _ rfl (.tmp 43) (.tmp 44) 25 25 rfl _ _ rfl rfl (HCA.out _) ?_))
  go_region_law (refine step_copy_run rfl (.tmp 50) (.tmp 53) 25 25 rfl (.slice (some ⟨w.heap.size, (i + 1) * 2, none⟩) (n + 1 - (i + 1)) (G - (i + 1))) (.slice (some ⟨b, i * 2, none⟩) (n - i) (c - i)) (by simp [Act.eval, Act.put]) (by simp [Act.eval, Act.put]) (HCB.out _) ?_)
  all_goals (
    go_wp2_with fail
    go_ret
    exact ⟨some ⟨w.heap.size, 0, none⟩, G, rfl, HO3.out, G3, .inr rfl⟩)

theorem insert_any (base : Nat) (A : Option Addr) (c n i : Nat) (xs : List Pce) (x : Pce) (X : Nat) (w : World)
    (hown : w.ownsRow base 34 2 (.slice A n c) n (xs.flatMap Pce.enc)) (hn : xs.length = n) (hn1 : n ≤ 1000000) (hX : w.heap[X]? = some (.cells (Pce.enc x).toArray 34)) (hne : (Value.slice A n c).ownBlock ≠ some X) (hi : i ≤ n) (hb : base ≤ w.heap.size) :
    Calls Try.prog 17 #[.slice A n c, .int .i64 (i : Int), .slice (some ⟨X, 0, none⟩) 1 1] w (Inserted w base A n c (xs.take i ++ x :: xs.drop i)) := by
  rcases Nat.lt_or_ge i n with h | h
  · obtain ⟨b, c', hv⟩ := own_slice hown (by omega)
    injection hv with hv1 hv2 hv3
    subst hv1
    have hbX : X ≠ b := fun e => hne (by rw [e]; rfl)
    by_cases hr : n + 1 ≤ c
    · exact insert_room base b c n i xs x X w hown hn hn1 hX hbX h hr
    · exact insert_grow base b c n i xs x X w hown hn hn1 hX hbX h (by omega)
  · obtain rfl : i = n := by omega
    rw [List.take_of_length_le (by omega), List.drop_eq_nil_of_le (by omega)]
    exact insert_end base A c i xs x X w hown hn hn1 hX hb
end Go.Proofs.Ytjnpdicoopgkoaa
