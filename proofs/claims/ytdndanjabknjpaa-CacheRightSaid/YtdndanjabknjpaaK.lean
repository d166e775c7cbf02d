/- Walks of the library's functions that cache calls: DeleteFunc. -/
import Derived.Test.YtdndanjabknjpaaJ
import Derived.Test.YtdndanjabknjpaaLibD
namespace Go.Proofs.Ytdndanjabknjpaa
open Go.RowKit Go.Lib

set_option linter.unusedVariables false
theorem filter_step {α : Type} [Inhabited α] (p : α → Bool) (xs : List α) (j : Nat) (hj : j < xs.length) : (xs.take (j + 1)).filter (fun x => !p x) = (xs.take j).filter (fun x => !p x) ++ if p xs[j]! then [] else [xs[j]!] := by
  rw [List.take_succ_eq_append_getElem hj, List.filter_append, ← getElem!_pos xs j hj]
  generalize xs[j]! = y
  cases hp : p y <;> simp [hp]
theorem set_take_snoc {α : Type} (zs : List α) (i : Nat) (v : α) (hi : i < zs.length) : (zs.set i v).take (i + 1) = zs.take i ++ [v] := by
  rw [List.take_succ_eq_append_getElem (by rw [List.length_set]; exact hi), List.take_set_of_le (Nat.le_refl _)]
  simp
theorem drop_next {α : Type} {zs xs : List α} {j : Nat} (h : zs.drop j = xs.drop j) : zs.drop (j + 1) = xs.drop (j + 1) := by
  rw [← List.drop_drop, ← List.drop_drop, h]
theorem setSame {α : Type} [Inhabited α] (l : List α) (i : Nat) (x : α) (hi : i < l.length) : (l.set i x)[i]! = x := by
  rw [setGet, if_pos ⟨rfl, hi⟩]

set_option maxHeartbeats 8000000 in
set_option maxRecDepth 100000 in
theorem deleteFunc_any (g : Nat) (lb : Array Value) (p : Ln → Bool) (eg : ∀ args w, (callFunc g args).run Try.prog w = .ok (.enter g args) w) (base : Nat) (A : Option Addr) (c n : Nat) (xs : List Ln) (w : World)
    (hown : w.ownsRow base 32 4 (.slice A n c) n (xs.flatMap Ln.enc)) (hn : xs.length = n) (hn1 : n ≤ 1000000)
    (hp : ∀ W, w.grownBy W (Value.slice A n c).ownBlock → PredBelow Try.prog g lb (fun x => .agg (Ln.enc x).toArray) p W) :
    Calls Try.prog 44 #[.slice A n c, .func (.func g) #[] lb] w fun e w' => ∃ n' : Nat, e = .returned (.slice A n' c) ∧ (xs.filter fun x => !p x).length = n' ∧ w'.ownsRow base 32 4 (.slice A n' c) n' ((xs.filter fun x => !p x).flatMap Ln.enc) ∧ w.grownBy w' (Value.slice A n c).ownBlock := by
  have hsl := Sl.of_own Ln.enc_len hown hn
  have hcI := indexFunc_any g lb p eg A c n xs w (hp w (World.grownBy.refl w _)) hsl hn
  rcases first_hit p xs with hno | ⟨i0, hi0, hpi, hbefore⟩
  · have hidx : Lib.idxBy (fun _ y => p y) xs default = -1 := by
      have := Lib.idxBy_miss (fun _ y => p y) xs xs.length default hno
      rwa [List.take_length] at this
    rw [hidx] at hcI
    have hf : (xs.filter fun x => !p x) = xs := List.filter_eq_self.2 fun x hx => by
      obtain ⟨j, hj, rfl⟩ := List.getElem_of_mem hx
      have := hno j hj
      rw [getElem!_pos xs j hj] at this
      rw [this]; rfl
    rw [hf]
    have HO := Lib.hid hown
    have HN := Lib.hid hn
    clear hno hidx hf hsl hp hown hn
    go_enter Try.func44, Try.ntmps44
    go_wp2_with (go_at_call 40; refine hcI.mono ?_; rintro e w1 ⟨rfl, hb1⟩)
    go_ret
    exact ⟨n, rfl, HN.out, own_below HO.out hb1, grown_of_below (World.grownBy.refl w _) hb1⟩
  have hidx : Lib.idxBy (fun _ y => p y) xs default = (i0 : Int) := by
    have := Lib.idxBy_hit (fun _ y => p y) xs xs.length i0 default hi0 (Nat.le_refl _) hpi hbefore
    rwa [List.take_length] at this
  rw [hidx] at hcI
  obtain ⟨b, c', hv⟩ := own_slice hown (by omega)
  injection hv with hv1 hv2 hv3
  subst hv1
  subst hv3
  obtain ⟨hcap, hcapm⟩ := own_cap hown
  have hcapz : c ≤ 9223372036854775807 := by unfold maxLen at hcapm; omega
  have htk0 : (xs.take (i0 + 1)).filter (fun x => !p x) = xs.take i0 := by
    rw [List.take_succ_eq_append_getElem hi0, List.filter_append, ← getElem!_pos xs i0 hi0, List.filter_eq_self.2 fun x hx => by
      obtain ⟨j, hj, rfl⟩ := List.getElem_of_mem hx
      rw [List.length_take] at hj
      rw [List.getElem_take, ← getElem!_pos xs j (by omega), hbefore j (by omega)]; rfl]
    have : ([xs[i0]!].filter fun x => !p x) = [] := by simp only [List.filter_cons, hpi]; rfl
    rw [this, List.append_nil]
  have HTK := Lib.hid htk0
  have HO := Lib.hid hown
  have HN := Lib.hid hn
  have HP := Lib.hid hp
  have hi0n : i0 < n := by omega
  clear hbefore hidx hsl hp hown hn hpi htk0 hi0 hv2 hcapm
  go_enter Try.func44, Try.ntmps44
  have hne1 : ((i0 : Int) == -1) = false := by rw [beq_eq_false_iff_ne]; omega
  go_wp2_with (go_at_call 40; refine hcI.mono ?_; rintro e w1 ⟨rfl, hb1⟩)
  have G1 := grown_of_below (World.grownBy.refl w (some b)) hb1
  have O1 := own_below HO.out hb1
  clear hne1
  go_loopg [5, 6] n (fun gg s5 s6 wr => ∃ (i j : Nat) (zs : List Ln), i < j ∧ j ≤ n ∧ n - j ≤ gg ∧ s5 = .int .i64 (i : Int) ∧ s6 = .int .i64 (j : Int) ∧ zs.length = n ∧ Aside (zs.take i = (xs.take j).filter fun x => !p x) ∧ Aside (zs.drop j = xs.drop j) ∧ wr.ownsRow base 32 4 (.slice (some ⟨b, 0, none⟩) n c) n (zs.flatMap Ln.enc) ∧ Aside (w.grownBy wr (some b)))
  case atStart => exact ⟨i0, i0 + 1, xs, by omega, by omega, by omega, rfl, by go_num, HN.out, HTK.out.symm, rfl, O1, G1⟩
  case round =>
    clear O1 G1
    obtain ⟨i, j, zs, hij, hjn, hgg, rfl, rfl, hzl, HZ1, HZ2, own, GW⟩ := hrel
    have HZL := Lib.hid hzl
    clear hzl
    by_cases hlt : j < n
    · have hltz : (j : Int) < (n : Int) := by omega
      have hinz : (i : Int) < (n : Int) := by omega
      have hjz : j < zs.length := by rw [HZL.out]; exact hlt
      have hjx : j < xs.length := by rw [HN.out]; exact hlt
      have hzx : zs[j]! = xs[j]! := by
        have := congrArg (fun l => l[0]?) HZ2.out
        simp only [List.getElem?_drop, Nat.add_zero] at this
        rw [getElem!_pos zs j hjz, getElem!_pos xs j hjx]
        rw [List.getElem?_eq_getElem hjz, List.getElem?_eq_getElem hjx] at this
        exact Option.some.inj this
      have hqv := fun r u (hu : (Ln.enc zs[j]!)[r]? = some u) => own_cell own (j * 4 + r) u (flat_at Ln.enc_len zs j r u hjz hu)
      have hqi := fun r u (hu : (Ln.enc zs[i]!)[r]? = some u) => own_cell own (i * 4 + r) u (flat_at Ln.enc_len zs i r u (by rw [HZL.out]; omega) hu)
      have q0 := hqv 0 _ rfl
      have p0 := hqi 0 _ rfl
      have q1 := hqv 1 _ rfl
      have p1 := hqi 1 _ rfl
      have q2 := hqv 2 _ rfl
      have p2 := hqi 2 _ rfl
      have q3 := hqv 3 _ rfl
      have p3 := hqi 3 _ rfl
      rw [Nat.add_zero] at q0 p0
      rw [hzx] at q0 q1 q2 q3
      have hfr := own_frozen own
      have obl := (own.lt b rfl).2
      have hfs := filter_step p xs j hjx
      have hcall := HP.out (wr.alloc (.cells (Ln.enc xs[j]!).toArray 32)) (grown_alloc GW.out _)
      have hcall2 := hcall _ xs[j]! (Below.refl _ _)
      clear hcall hqv hqi hjx
      generalize hv : xs[j]! = v at *
      have HV := Lib.hid hzx
      have HJZ := Lib.hid hjz
      have HFS := Lib.hid hfs
      clear hv hzx hjz hfs
      have bnew1 : Below wr.heap.size wr (wr.alloc (.cells (Ln.enc v).toArray 32)) := bnew
      cases hpv : p v with
      | true =>
        rw [hpv] at hcall2
        go_wp2_with fail
        refine hcall2.mono ?_
        rintro e w4 ⟨rfl, hb4⟩
        go_wp2_with fail
        go_roundg (n - (j + 1))
        case measure => omega
        case rel =>
          have h1 := HFS.out
          rw [hpv, if_pos rfl, List.append_nil] at h1
          exact ⟨i, j + 1, zs, by omega, by omega, by omega, rfl, by go_num, HZL.out, (show Aside _ from HZ1.out.trans h1.symm), (show Aside _ from drop_next HZ2.out), own_below (own.alloc _) hb4, (show Aside _ from grown_of_below (grown_alloc GW.out _) hb4)⟩
      | false =>
        rw [hpv] at hcall2
        go_wp2_with fail
        refine hcall2.mono ?_
        rintro e w4 ⟨rfl, hb4⟩
        have lt4 : wr.heap.size < (wr.alloc (.cells (Ln.enc v).toArray 32)).heap.size := by simp
        have x0 : w4.cell? ⟨wr.heap.size, 0, none⟩ = some (.int .i64 v.addr) := (hb4.cell (p := ⟨wr.heap.size, 0, none⟩) lt4).trans (World.cell?_alloc_new (w := wr) _ _ _)
        have y0 : w4.cell? ⟨b, i * 4, none⟩ = some (.int .i64 zs[i]!.addr) := (hb4.cell (p := ⟨b, i * 4, none⟩) (Nat.lt_trans obl lt4)).trans ((World.cell?_alloc_lt wr _ ⟨b, i * 4, none⟩ obl).trans p0)
        have x1 : w4.cell? ⟨wr.heap.size, 1, none⟩ = some (.int .i64 v.state) := (hb4.cell (p := ⟨wr.heap.size, 1, none⟩) lt4).trans (World.cell?_alloc_new (w := wr) _ _ _)
        have y1 : w4.cell? ⟨b, i * 4 + 1, none⟩ = some (.int .i64 zs[i]!.state) := (hb4.cell (p := ⟨b, i * 4 + 1, none⟩) (Nat.lt_trans obl lt4)).trans ((World.cell?_alloc_lt wr _ ⟨b, i * 4 + 1, none⟩ obl).trans p1)
        have x2 : w4.cell? ⟨wr.heap.size, 2, none⟩ = some (.int .u32 v.val_) := (hb4.cell (p := ⟨wr.heap.size, 2, none⟩) lt4).trans (World.cell?_alloc_new (w := wr) _ _ _)
        have y2 : w4.cell? ⟨b, i * 4 + 2, none⟩ = some (.int .u32 zs[i]!.val_) := (hb4.cell (p := ⟨b, i * 4 + 2, none⟩) (Nat.lt_trans obl lt4)).trans ((World.cell?_alloc_lt wr _ ⟨b, i * 4 + 2, none⟩ obl).trans p2)
        have x3 : w4.cell? ⟨wr.heap.size, 3, none⟩ = some (.int .i64 v.used) := (hb4.cell (p := ⟨wr.heap.size, 3, none⟩) lt4).trans (World.cell?_alloc_new (w := wr) _ _ _)
        have y3 : w4.cell? ⟨b, i * 4 + 3, none⟩ = some (.int .i64 zs[i]!.used) := (hb4.cell (p := ⟨b, i * 4 + 3, none⟩) (Nat.lt_trans obl lt4)).trans ((World.cell?_alloc_lt wr _ ⟨b, i * 4 + 3, none⟩ obl).trans p3)
        have own4 := own_below (own.alloc (.cells (Ln.enc v).toArray 32)) hb4
        have G4 := grown_of_below (grown_alloc GW.out (.cells (Ln.enc v).toArray 32)) hb4
        have hfr4 := own_frozen own4
        clear hfr hcall2 hb4 bnew1 own
        go_wp2_with fail
        have hil : i < zs.length := by rw [HZL.out]; omega
        have own40 := own_set own4 (i * 4 + 0) (.int .i64 v.addr)
        rw [flat_set Ln.enc_len (zs) i 0 (⟨v.addr, zs[i]!.state, zs[i]!.val_, zs[i]!.used⟩ : Ln) (.int .i64 v.addr) (by simpa using hil) (by decide) (by rfl)] at own40
        have G40 := grown_set (j := i * 4 + 0) G4 (.int .i64 v.addr)
        have own41 := own_set own40 (i * 4 + 1) (.int .i64 v.state)
        rw [flat_set Ln.enc_len ((zs).set i (⟨v.addr, zs[i]!.state, zs[i]!.val_, zs[i]!.used⟩ : Ln)) i 1 (⟨v.addr, v.state, zs[i]!.val_, zs[i]!.used⟩ : Ln) (.int .i64 v.state) (by simpa using hil) (by decide) (by rw [setSame _ i _ (by simpa using hil)]; rfl)] at own41
        have G41 := grown_set (j := i * 4 + 1) G40 (.int .i64 v.state)
        have own42 := own_set own41 (i * 4 + 2) (.int .u32 v.val_)
        rw [flat_set Ln.enc_len (((zs).set i (⟨v.addr, zs[i]!.state, zs[i]!.val_, zs[i]!.used⟩ : Ln)).set i (⟨v.addr, v.state, zs[i]!.val_, zs[i]!.used⟩ : Ln)) i 2 (⟨v.addr, v.state, v.val_, zs[i]!.used⟩ : Ln) (.int .u32 v.val_) (by simpa using hil) (by decide) (by rw [setSame _ i _ (by simpa using hil)]; rfl)] at own42
        have G42 := grown_set (j := i * 4 + 2) G41 (.int .u32 v.val_)
        have own43 := own_set own42 (i * 4 + 3) (.int .i64 v.used)
        rw [flat_set Ln.enc_len ((((zs).set i (⟨v.addr, zs[i]!.state, zs[i]!.val_, zs[i]!.used⟩ : Ln)).set i (⟨v.addr, v.state, zs[i]!.val_, zs[i]!.used⟩ : Ln)).set i (⟨v.addr, v.state, v.val_, zs[i]!.used⟩ : Ln)) i 3 (⟨v.addr, v.state, v.val_, v.used⟩ : Ln) (.int .i64 v.used) (by simpa using hil) (by decide) (by rw [setSame _ i _ (by simpa using hil)]; rfl)] at own43
        have G43 := grown_set (j := i * 4 + 3) G42 (.int .i64 v.used)
        have own5 := own43
        have G5 := G43
        simp only [List.set_set, Nat.add_zero] at own5 G5
        go_roundg (n - (j + 1))
        case measure => omega
        case rel =>
          have h1 := HFS.out
          rw [hpv] at h1
          simp only [Bool.false_eq_true, if_false] at h1
          exact ⟨i + 1, j + 1, zs.set i v, by omega, by omega, by omega, by go_num, by go_num, by rw [List.length_set]; exact HZL.out, (show Aside _ from by rw [set_take_snoc zs i v hil, HZ1.out, h1]; exact (rfl : _ = _)), (show Aside _ from by rw [List.drop_set_of_lt (by omega)]; exact drop_next HZ2.out), own5, (show Aside _ from G5)⟩
    · obtain rfl : j = n := by omega
      have hltz : ¬ (j : Int) < (j : Int) := by omega
      have hfin : zs.take i = xs.filter fun x => !p x := by
        have := HZ1.out
        rwa [List.take_of_length_le (Nat.le_of_eq HN.out)] at this
      have hlen : (xs.filter fun x => !p x).length = i := by rw [← hfin, List.length_take, HZL.out]; omega
      have HF := Lib.hid hfin
      have HL := Lib.hid hlen
      have hic : ¬ c = i := by omega
      have hicz : ¬ (i : Int) = (c : Int) := by omega
      have hicl : (i : Int) < (c : Int) := by omega
      have hinz : (i : Int) ≤ (j : Int) := by omega
      have hcl : ∀ ty, (Builtin.clear_ #[40] ty #[.slice (some ⟨b, i * 4, none⟩) (j - i) (c - i)]).run Try.prog wr = .ok (.tuple #[]) (wr.setCells b (i * 4) (Builtin.zeroCells (Value.cells (.agg #[.int .i64 0, .int .i64 0, .int .u32 0, .int .i64 0])) (j - i)).toList) := fun ty =>
        run_clear_k wr 40 32 ty (.agg #[.int .i64 0, .int .i64 0, .int .u32 0, .int .i64 0]) 4 Try.underlying40 (fun _ => by kernel_rfl) rfl (by decide) (by intro v hv; simp [Value.cells] at hv; rcases hv with rfl | rfl | rfl | rfl <;> rfl) b (i * 4) (j - i) (c - i)
          (fun q hq => own_there own _ (by have h1 := Nat.mul_le_mul_right 4 hcap; have h2 : i * 4 + (j - i) * 4 = j * 4 := by rw [← Nat.add_mul]; congr 1; omega
                                           omega)) (fun q hq => own_frozen own _)
      have HCL := Lib.hid hcl
      clear hfin hlen hcl
      go_wp2_with (with_reducible refine wpList_clear_run _ rfl (.tmp 38) 40 rfl _ rfl (HCL.out _) ?_)
      go_ret
      have o2 := own_take (n' := i) (own_setCells (Builtin.zeroCells (Value.cells (.agg #[.int .i64 0, .int .i64 0, .int .u32 0, .int .i64 0])) (j - i)).toList _ _ (i * 4) own) (by omega)
      rw [setAll_take _ _ _ _ (Nat.le_refl _), flat_take Ln.enc_len, HF.out] at o2
      exact ⟨i, rfl, HL.out, o2, grown_setCells _ _ _ GW.out⟩
end Go.Proofs.Ytdndanjabknjpaa
