/- The walk of cache.All: its lines, sorted by their addresses. -/
import Derived.Test.YtdndanjabknjpaaZ
import Derived.Shelf.SlSortCmp.NoneTotal
namespace Go.Proofs.Ytdndanjabknjpaa
open Go.RowKit Go.Lib

set_option linter.unusedVariables false
def sortLn_ren : Go.Shelf.Ren := ⟨fun | 6 => 31 | 15 => 48 | 14 => 47 | 28 => 58 | 29 => 59 | 20 => 50 | 21 => 51 | 22 => 52 | 23 => 53 | 24 => 54 | 25 => 55 | 26 => 56 | 27 => 57 | 46 => 60 | 47 => 61 | 48 => 62 | 49 => 63 | 50 => 64 | 57 => 65 | n => n, fun | 22 => 40 | 24 => 32 | 25 => 70 | 3 => 3 | 39 => 82 | 0 => 0 | 53 => 30 | 55 => 94 | 4 => 4 | 46 => 86 | 45 => 85 | 50 => 90 | 5 => 5 | 9 => 9 | 66 => 95 | 70 => 99 | 76 => 101 | 77 => 59 | n => n, fun | n => n⟩
theorem sortLn : Go.Proofs.SlLaysF0.n6 Try.prog sortLn_ren := {
  mixed := by kernel_rfl
  f6 := ⟨Try.f31.name, by decide, Try.func31.trans (congrArg some (by kernel_rfl))⟩
  f14 := ⟨Try.f47.name, by decide, Try.func47.trans (congrArg some (by kernel_rfl))⟩
  f15 := Try.func48.trans (congrArg some (by kernel_rfl))
  f20 := ⟨Try.f50.name, by decide, Try.func50.trans (congrArg some (by kernel_rfl))⟩
  f21 := ⟨Try.f51.name, by decide, Try.func51.trans (congrArg some (by kernel_rfl))⟩
  f22 := ⟨Try.f52.name, by decide, Try.func52.trans (congrArg some (by kernel_rfl))⟩
  f23 := ⟨Try.f53.name, by decide, Try.func53.trans (congrArg some (by kernel_rfl))⟩
  f24 := ⟨Try.f54.name, by decide, Try.func54.trans (congrArg some (by kernel_rfl))⟩
  f25 := ⟨Try.f55.name, by decide, Try.func55.trans (congrArg some (by kernel_rfl))⟩
  f26 := ⟨Try.f56.name, by decide, Try.func56.trans (congrArg some (by kernel_rfl))⟩
  f27 := ⟨Try.f57.name, by decide, Try.func57.trans (congrArg some (by kernel_rfl))⟩
  f28 := Try.func58.trans (congrArg some (by kernel_rfl))
  f29 := Try.func59.trans (congrArg some (by kernel_rfl))
  f46 := ⟨Try.f60.name, by decide, Try.func60.trans (congrArg some (by kernel_rfl))⟩
  f47 := Try.func61.trans (congrArg some (by kernel_rfl))
  f48 := Try.func62.trans (congrArg some (by kernel_rfl))
  f49 := ⟨Try.f63.name, by decide, Try.func63.trans (congrArg some (by kernel_rfl))⟩
  f50 := ⟨Try.f64.name, by decide, Try.func64.trans (congrArg some (by kernel_rfl))⟩
  f57 := ⟨Try.f65.name, by decide, Try.func65.trans (congrArg some (by kernel_rfl))⟩
  t0 := Try.underlying0
  a0 := Try.isAgg0
  z0 := Try.sizeOf0
  v0 := Try.zeroValue0
  t3 := Try.underlying3
  a3 := Try.isAgg3
  z3 := Try.sizeOf3
  v3 := Try.zeroValue3
  t4 := Try.underlying4
  a4 := Try.isAgg4
  z4 := Try.sizeOf4
  v4 := Try.zeroValue4
  t5 := Try.underlying5
  a5 := Try.isAgg5
  z5 := Try.sizeOf5
  v5 := Try.zeroValue5
  t9 := Try.underlying9
  a9 := Try.isAgg9
  z9 := Try.sizeOf9
  v9 := Try.zeroValue9
  t22 := Try.underlying40
  a22 := Try.isAgg40
  z22 := Try.sizeOf40
  v22 := Try.zeroValue40
  t25 := Try.underlying70
  a25 := Try.isAgg70
  z25 := Try.sizeOf70
  v25 := Try.zeroValue70
  t39 := Try.underlying82
  a39 := Try.isAgg82
  z39 := Try.sizeOf82
  v39 := Try.zeroValue82
  t45 := Try.underlying85
  a45 := Try.isAgg85
  z45 := Try.sizeOf85
  v45 := Try.zeroValue85
  t46 := Try.underlying86
  a46 := Try.isAgg86
  z46 := Try.sizeOf86
  v46 := Try.zeroValue86
  t50 := Try.underlying90
  a50 := Try.isAgg90
  z50 := Try.sizeOf90
  v50 := Try.zeroValue90
  t53 := Try.underlying30
  a53 := Try.isAgg30
  z53 := Try.sizeOf30
  v53 := Try.zeroValue30
  t55 := Try.underlying94
  a55 := Try.isAgg94
  z55 := Try.sizeOf94
  v55 := Try.zeroValue94
  t66 := Try.underlying95
  a66 := Try.isAgg95
  z66 := Try.sizeOf95
  v66 := Try.zeroValue95
  t70 := Try.underlying99
  a70 := Try.isAgg99
  z70 := Try.sizeOf99
  v70 := Try.zeroValue99
  t76 := Try.underlying101
  a76 := Try.isAgg101
  z76 := Try.sizeOf101
  v76 := Try.zeroValue101
  t77 := Try.underlying59
  a77 := Try.isAgg59
  z77 := Try.sizeOf59
  v77 := Try.zeroValue59 }

theorem cmpA_any (x y : Ln) (W : World) :
    Calls Try.prog 32 #[.agg #[.int .i64 x.addr, .int .i64 x.state, .int .u32 x.val_, .int .i64 x.used], .agg #[.int .i64 y.addr, .int .i64 y.state, .int .u32 y.val_, .int .i64 y.used]] W fun e w' => e = .returned (.int .i64 (Lib.compareInt x.addr y.addr)) ∧ ∃ q os', w' = Go.Sort.grow (W.drewN q) os' := by
  have cC := fun w1 => compare_any x.addr y.addr w1
  generalize Lib.compareInt x.addr y.addr = r at cC ⊢
  go_enter Try.func32, Try.ntmps32
  go_wp2_with fail
  refine (cC _).mono ?_
  rintro e w1 ⟨rfl, rfl⟩
  go_wp2_with fail
  go_ret
  exact ⟨rfl, 0, _, by rw [Go.Sort.alloc_eq_grow, Go.Sort.alloc_eq_grow, Go.Sort.grow_grow]; rfl⟩
def cfA (x y : Ln) : Int := Lib.compareInt x.addr y.addr
theorem ltA (x y : Ln) : Go.Proofs.ltOf cfA x y = decide (x.addr < y.addr) := by
  unfold Go.Proofs.ltOf cfA Lib.compareInt
  by_cases h1 : x.addr < y.addr
  · simp [h1]
  · by_cases h2 : y.addr < x.addr <;> simp [h1, h2]
theorem swoA : Go.Sort.SWO (Go.Proofs.ltOf cfA) where
  irrefl x := by rw [ltA]; simp
  trans x y z h1 h2 := by rw [ltA] at *; simp at *; omega
  ntrans x y z h1 h2 := by rw [ltA] at *; simp at *; omega
theorem own_holds {w : World} {base g n c : Nat} {l : List Ln} (h : w.ownsRow base 32 4 (.slice (some ⟨g, 0, none⟩) n c) n (l.flatMap Ln.enc)) : Go.Sort.HoldsK Ln.enc 4 w g 0 l.toArray := by
  intro j hj
  rw [Go.Sort.size_flatK] at hj
  rw [Go.Sort.get_flatK _ _ _ _ hj, Nat.zero_add]
  refine ⟨?_, own_frozen h j⟩
  have hl : l.toArray.size = l.length := by simp
  have h1 : j / 4 < l.length := by omega
  have e1 : l.toArray[j / 4]! = l[j / 4]! := by simp
  rw [e1]
  have h3 : (Ln.enc l[j / 4]!)[j % 4]? = some (Ln.enc l[j / 4]!)[j % 4]! := by
    have : j % 4 < (Ln.enc l[j / 4]!).length := by rw [Ln.enc_len]; omega
    rw [getElem!_pos (Ln.enc l[j / 4]!) (j % 4) this]
    exact List.getElem?_eq_getElem this
  have := own_cell h j _ (by have := flat_at Ln.enc_len l (j / 4) (j % 4) _ h1 h3; rwa [show j / 4 * 4 + j % 4 = j by omega] at this)
  exact this
theorem sl_holds {w : World} {g : Nat} {d : Array Ln} (h : Go.Sort.HoldsK Ln.enc 4 w g 0 d) (hb : d.size ≤ 1000000) : Sl 4 Ln.enc w (some ⟨g, 0, none⟩) d.toList := by
  refine ⟨by simp; omega, fun _ => ⟨g, 0, rfl, fun j hj i v hv => ?_⟩⟩
  have hj2 : j < d.size := by simpa using hj
  have hi : i < 4 := by have := (List.getElem?_eq_some_iff.1 hv).1; rwa [Ln.enc_len] at this
  have e1 : d.toList[j]! = d[j]! := by rw [getElem!_pos d.toList j hj, getElem!_pos d j hj2]; simp
  rw [e1] at hv
  have h9 := (Go.Sort.HoldsK.cell h hj2 hi).1
  rw [h9]
  congr 1
  rw [getElem!_pos (Ln.enc d[j]!) i (List.getElem?_eq_some_iff.1 hv).1]
  exact (List.getElem?_eq_some_iff.1 hv).2
theorem below_sort {w W : World} {blk off m : Nat} {d : Array Ln} {os : Array Obj} (h : Below w.heap.size w W) (hb : w.heap.size ≤ blk) : Below w.heap.size w (Go.Proofs.sortWorldK Ln.enc 4 W blk off m d os) := by
  refine ⟨h.os, h.tape, h.output, ?_, fun i hi => ?_⟩
  · have := h.size
    simp [Go.Proofs.sortWorldK, Go.Sort.grow, Go.Sort.putRowK, Go.Sort.putRow, Go.Sort.mapBlock, Go.Sort.ahead]
    omega
  · rw [← h.block i hi]
    have := h.size
    have hne : blk ≠ i := by omega
    simp [Go.Proofs.sortWorldK, Go.Sort.grow, Go.Sort.putRowK, Go.Sort.putRow, Go.Sort.mapBlock, Go.Sort.ahead, Array.getElem?_append, show i < W.heap.size by omega]
    rw [Array.getElem_modify_of_ne hne]
/-- A row of the call's own, sorted. -/
theorem sort_any (A : Option Addr) (c n : Nat) (l : List Ln) (w0 w : World) (h : w.ownsRow w0.heap.size 32 4 (.slice A n c) n (l.flatMap Ln.enc)) (hn : l.length = n) (hn1 : n ≤ 1000000) (hb : Below w0.heap.size w0 w) :
    Calls Try.prog 31 #[.slice A n c, .func (.func 32) #[] #[]] w fun e w' => e = .returned (.tuple #[]) ∧ ∃ l' : List Ln, l'.length = n ∧ l'.Perm l ∧ l'.Pairwise (fun a b => a.addr ≤ b.addr) ∧ Sl 4 Ln.enc w' A l' ∧ Below w0.heap.size w0 w' := by
  rcases own_form h with ⟨rfl, rfl, rfl⟩ | ⟨g, rfl⟩
  · obtain rfl : l = [] := List.length_eq_zero_iff.1 hn
    refine (Go.Proofs.AnyF.slices_SortFunc_none sortLn none 0 (.func (.func 32) #[] #[]) w).mono ?_
    rintro e w' ⟨rfl, rfl⟩
    exact ⟨rfl, [], rfl, List.Perm.refl _, List.Pairwise.nil, Sl.nil _ _ _ _, hb⟩
  · subst hn
    have hlt := (h.lt g rfl).2
    have hge := (h.lt g rfl).1
    have hH := own_holds h
    have hsz : l.toArray.size = l.length := by simp
    have hcon := Go.Proofs.AnyQ.slices_SortFunc sortLn 4 Try.isAgg32 Try.sizeOf32 Ln.enc Ln.enc_len Ln.enc_one cfA swoA 32 #[] g 0 c l.toArray w (enters_of Try.func32 (by kernel_rfl) rfl) (fun m os dk _ x y => cmpA_any x y _) hH hlt (by rw [hsz]; omega)
    rw [hsz] at hcon
    refine hcon.mono ?_
    rintro e w' ⟨rfl, d', q, os, hp, hs, rfl⟩
    have hd : d'.size = l.length := hp.1.trans hsz
    have hH2 : Go.Sort.HoldsK Ln.enc 4 (Go.Proofs.sortWorldK Ln.enc 4 w g 0 q d' os) g 0 d' := by
      unfold Go.Proofs.sortWorldK
      refine Go.Sort.holdsK_grow _ _ _ _ _ _ _ ?_ (Go.Sort.holdsK_putRowK _ _ _ _ _ l.toArray _ (Go.Sort.holdsK_ahead _ _ _ _ _ _ _ hH) (by rw [hsz]; exact hd))
      simp [Go.Sort.putRowK, Go.Sort.putRow, Go.Sort.mapBlock, Go.Sort.ahead]
      exact hlt
    refine ⟨rfl, d'.toList, by simpa using hd, ?_, ?_, sl_holds hH2 (by omega), below_sort hb hge⟩
    · have h3 := hp.2.2
      rw [show (d'.extract 0 l.length) = d' by rw [← hd]; simp, show (l.toArray.extract 0 l.length) = l.toArray by simp] at h3
      simpa using h3
    · rw [List.pairwise_iff_getElem]
      intro i j hi hj hij
      have h3 := hs i j (Nat.zero_le _) hij (by simp at hj; omega)
      rw [ltA, decide_eq_false_iff_not] at h3
      have hi2 : i < d'.size := by simpa using hi
      have hj2 : j < d'.size := by simpa using hj
      rw [getElem!_pos d' i hi2, getElem!_pos d' j hj2] at h3
      simp only [Array.getElem_toList]
      omega
/-- What All hands back. -/
def AllL (w : World) (x : Ca) (e : Ending) (w' : World) : Prop :=
  ∃ B m d l, e = .returned (.slice B m d) ∧ List.length l = m ∧ (rightC x = true → l.Perm x.lines.flatten ∧ l.Pairwise (fun a b => a.addr ≤ b.addr)) ∧ (rightC x = false → l = []) ∧ Sl 4 Ln.enc w' B l ∧ Below w.heap.size w w'
theorem flat_small {x : Ca} (h : rightC x = true) : x.lines.flatten.length ≤ 72 := by
  obtain ⟨f1, f2, f3, f4, f5, f6, f7⟩ := right_facts h
  have := upC_len f4 x.lines.length 0 (Nat.le_refl _) (of_decide_eq_true h).sets (by omega)
  rw [upC_zero, List.take_of_length_le (Nat.le_refl _)] at this
  omega
set_option maxHeartbeats 8000000 in
theorem all_any (A : Option Addr) (c n : Nat) (x : Ca) (hs : List Hd) (w : World) (hc : CIn w A x.lines hs) (hn : x.lines.length = n) (hwf : WfC x) :
    Calls Try.prog 13 #[.agg #[.int .i64 x.sets, .int .i64 x.ways, .int .i64 x.clock, .slice A n c]] w (AllL w x) := by
  have b0 : Below w.heap.size w (w.alloc (.cells #[.int .i64 x.sets, .int .i64 x.ways, .int .i64 x.clock, .slice A n c] 26)) := (Below.refl _ _).alloc (Nat.le_refl _) _
  have X := Bx.new w [.int .i64 x.sets, .int .i64 x.ways, .int .i64 x.clock, .slice A n c] 26
  have cR := right_any A c n x hs _ (hc.below b0) hn hwf
  have x0 := X.cell 0 _ rfl
  have x1 := X.cell 1 _ rfl
  have x2 := X.cell 2 _ rfl
  have x3 := X.cell 3 _ rfl
  have HC := Lib.hid (hc.below b0)
  have HN := Lib.hid hn
  clear hc hn hwf
  cases hr : rightC x with
  | false =>
    rw [hr] at cR
    have HR := Lib.hid hr
    clear hr
    go_enter Try.func13, Try.ntmps13
    go_wp2_with fail
    refine cR.mono ?_
    rintro e w1 ⟨rfl, hb1⟩
    have b1 := b0.trans (hb1.mono b0.size)
    clear cR X x0 x1 x2 x3 hb1
    go_wp2_with fail
    go_ret
    exact ⟨none, 0, 0, [], rfl, rfl, (fun h => by rw [HR.out] at h; cases h), (fun _ => rfl), Sl.nil _ _ _ _, b1⟩
  | true =>
    rw [hr] at cR
    have HR := Lib.hid hr
    have hfl := flat_small hr
    have HF := Lib.hid hfl
    clear hr hfl
    go_enter Try.func13, Try.ntmps13
    go_wp2_with fail
    generalize w.alloc (.cells #[.int .i64 x.sets, .int .i64 x.ways, .int .i64 x.clock, .slice A n c] 26) = w0 at *
    refine cR.mono ?_
    rintro e w1 ⟨rfl, hb1⟩
    have b1 := b0.trans (hb1.mono b0.size)
    have cC := concat_any A c n x.lines hs w1 (HC.out.below hb1) HN.out (by have := HF.out; omega)
    replace X := X.below hb1
    clear cR x0 x1 x2 x3 hb1
    have x3 := X.cell 3 _ rfl
    obtain ⟨T, hT⟩ : ∃ T, T = x.lines.flatten.length := ⟨_, rfl⟩
    rw [← hT] at cC
    have HT := Lib.hid hT
    clear hT
    go_wp2_with fail
    refine cC.mono ?_
    rintro e w2 ⟨v2, rfl, own2, hb2⟩
    obtain ⟨B, d, rfl⟩ := own_shape own2
    have b2 := b1.trans (hb2.mono b1.size)
    have hT1 : T ≤ 1000000 := by have := HF.out; rw [← HT.out] at this; omega
    have cS := sort_any B d T x.lines.flatten w w2 (own_weaken' own2 b1.size) HT.out.symm hT1 b2
    clear cC own2 hb2 X x3 hT1
    go_wp2_with fail
    refine cS.mono ?_
    rintro e w3 ⟨rfl, l', hl, hp, hw, hsl, hb3⟩
    have HS := Lib.hid hsl
    have HL := Lib.hid hl
    clear hsl hl cS
    go_wp2_with fail
    go_ret
    exact ⟨B, T, d, l', rfl, HL.out, (fun _ => ⟨hp, hw⟩), (fun h => by rw [HR.out] at h; cases h), HS.out, hb3⟩
end Go.Proofs.Ytdndanjabknjpaa
