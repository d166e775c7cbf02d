/- The walk of CacheLast. -/
import Derived.Test.YtdndanjabknjpaaAE
import Derived.Test.YtdndanjabknjpaaOp
namespace Go.Proofs.Ytdndanjabknjpaa
open Go.RowKit Go.Lib

set_option linter.unusedVariables false
attribute [local go_sem] Act.puts
/-- An array of 256 of the call's own. -/
structure ArrF (w : World) (X : Nat) (T : TypeId) (f : Nat → Value) : Prop where
  blk : w.heap[X]? = some (.cells ((List.range 256).map f).toArray T (0, 0))
section
variable {w w' : World} {X : Nat} {T : TypeId} {f : Nat → Value}
theorem ArrF.lt (h : ArrF w X T f) : X < w.heap.size := by
  have := h.blk
  rcases Nat.lt_or_ge X w.heap.size with hl | hl
  · exact hl
  · rw [Array.getElem?_eq_none hl] at this; cases this
theorem ArrF.cell (h : ArrF w X T f) {k : Nat} (hk : k < 256) : w.cell? ⟨X, k, none⟩ = some (f k) := by
  rw [cell_of_row _ X k _ T (0, 0) h.blk]
  simp [hk]
theorem ArrF.frozen (h : ArrF w X T f) (k : Nat) : w.frozen? ⟨X, k, none⟩ = false := by simp [World.frozen?, h.blk]
theorem ArrF.below (h : ArrF w X T f) (hb : Below w.heap.size w w') : ArrF w' X T f := ⟨(hb.block X h.lt).trans h.blk⟩
theorem ArrF.alloc (h : ArrF w X T f) (o : Obj) : ArrF (w.alloc o) X T f := h.below ((Below.refl _ _).alloc (Nat.le_refl _) o)
theorem ArrF.far (h : ArrF w X T f) {Y : Nat} (hne : Y ≠ X) (j : Nat) (u : Value) : ArrF (w.setCell ⟨Y, j, none⟩ u) X T f := ⟨by rw [← h.blk]; simp [World.setCell, Array.getElem?_modify, hne]⟩
theorem ArrF.set (h : ArrF w X T f) (k : Nat) (u : Value) : ArrF (w.setCell ⟨X, k, none⟩ u) X T (fun j => if j = k then u else f j) := by
  refine ⟨?_⟩
  have e : ((List.range 256).map fun j => if j = k then u else f j) = ((List.range 256).map f).set k u := by
    refine List.ext_getElem (by simp) fun i h1 h2 => ?_
    rw [List.getElem_set]
    simp only [List.getElem_map, List.getElem_range]
    by_cases hh : k = i
    · subst hh; simp
    · rw [if_neg hh, if_neg (Ne.symm hh)]
  rw [e]
  simp [World.setCell, Array.getElem?_modify, h.blk]
theorem ArrF.congr (h : ArrF w X T f) {g : Nat → Value} (hg : ∀ k, k < 256 → f k = g k) : ArrF w X T g :=
  ⟨by rw [h.blk, List.map_congr_left (fun k hk => hg k (List.mem_range.1 hk))]⟩
end
theorem zero35 : Try.zeroCells35 = ((List.range 256).map fun _ => Value.bool false).toArray := by kernel_rfl
theorem ArrF.new35 (w : World) : ArrF (w.alloc (.cells Try.zeroCells35 35)) w.heap.size 35 (fun _ => .bool false) := ⟨by rw [← zero35]; exact heap_alloc_new w _⟩
def putsC (n m : Nat) : List Int → Nat → Ca → Ca
  | [], _, x => x
  | t :: r, i, x => putsC n m r (i + 1) (putC x t 1 (i : Int)).1

set_option maxHeartbeats 16000000 in
set_option maxRecDepth 100000 in
theorem last_row (p pw : Int) (A : Option Addr) (ac : Nat) (l : List Int) (w : World) (hs : Sl 1 (fun x : Int => [Value.int .u8 x]) w A l) (hg : ∀ x ∈ l, 0 ≤ x ∧ x ≤ 255) (wp : (Lit.int .u8 p).wf = true) (wq : (Lit.int .u8 pw).wf = true) :
    Calls Try.prog 3 #[.int .u8 p, .int .u8 pw, .slice A l.length ac] w fun e w' => e = .returned (.bool true) ∧ Below w.heap.size w w' := by
  have hp := wf_u8 wp
  have hq := wf_u8 wq
  have hbig := hs.big
  obtain ⟨am, hN⟩ : ∃ am, l.length = am := ⟨_, rfl⟩
  rw [hN] at hbig ⊢
  have HN := Lib.hid hN
  have HS := Lib.hid hs
  have HG := Lib.hid hg
  have cW := fun w1 => awake_any w1
  obtain ⟨n, e1, hn1, hn8⟩ : ∃ n : Nat, p.tmod 8 + 1 = (n : Int) ∧ 1 ≤ n ∧ n ≤ 8 := by
    rw [Int.tmod_eq_emod_of_nonneg hp.1]
    exact ⟨(p % 8 + 1).toNat, by omega, by omega, by omega⟩
  obtain ⟨m, e2, hm1, hm8⟩ : ∃ m : Nat, pw.tmod 8 + 1 = (m : Int) ∧ 1 ≤ m ∧ m ≤ 8 := by
    rw [Int.tmod_eq_emod_of_nonneg hq.1]
    exact ⟨(pw % 8 + 1).toNat, by omega, by omega, by omega⟩
  have p1 : p.tmod 8 = (n : Int) - 1 := by omega
  have p2 : pw.tmod 8 = (m : Int) - 1 := by omega
  have p3 : IntKind.u8.wrap ((n : Int) - 1) = (n : Int) - 1 := by simp [IntKind.wrap, IntKind.signed, IntKind.bits]; omega
  have p4 : IntKind.u8.wrap ((m : Int) - 1) = (m : Int) - 1 := by simp [IntKind.wrap, IntKind.signed, IntKind.bits]; omega
  have p5 : IntKind.i64.wrap ((n : Int) - 1) = (n : Int) - 1 := IntWalk.i64_in _ (by omega)
  have p6 : IntKind.i64.wrap ((m : Int) - 1) = (m : Int) - 1 := IntWalk.i64_in _ (by omega)
  have p7 : wrap64 ((n : Int) - 1 + 1) = (n : Int) := by unfold wrap64; omega
  have p8 : wrap64 ((m : Int) - 1 + 1) = (m : Int) := by unfold wrap64; omega
  have cN := fun w1 => GivesC.num (new_any (n : Int) (m : Int) w1) (y := ⟨n, m, 0, List.replicate n []⟩) (k := 0) (by unfold newC; rw [if_pos (by omega), Int.toNat_natCast]) (n := n) (by simp)
  clear hN hs hg hp hq wp wq e1 e2
  go_enter Try.func3, Try.ntmps3
  go_wp2_with fail
  refine (cW _).mono ?_
  rintro e w1 ⟨rfl, b0⟩
  clear cW
  go_wp2_with fail
  refine (cN _).mono ?_
  rintro e w2 ⟨A2, c2, hs2, rfl, own2, hb2⟩
  have b2 := b0.trans (hb2.mono b0.size)
  have hX := b2.size
  have cv0 : CV (fun g => g ≠ w2.heap.size) (w2.alloc (.cells #[.int .i64 (n : Int), .int .i64 (m : Int), .int .i64 0, .slice A2 n c2] 26)) w2.heap.size ⟨n, m, 0, List.replicate n []⟩ A2 n c2 hs2 := CV.new (y := ⟨n, m, 0, List.replicate n []⟩) own2 (fun g _ h => by omega)
  have b3 := b2.alloc b2.size (.cells #[.int .i64 (n : Int), .int .i64 (m : Int), .int .i64 0, .slice A2 n c2] 26)
  clear cN own2 hb2 b2 b0
  by_cases hN1 : 100 < (am : Int)
  · go_wp2_with fail
    go_ret
    exact ⟨rfl, b3⟩
  have L0 := LastInv.new hn1 hn8 hm1 hm8
  have hN100 : am ≤ 100 := by omega
  go_wp2_with fail
  generalize w2.alloc (.cells #[.int .i64 (n : Int), .int .i64 (m : Int), .int .i64 0, .slice A2 n c2] 26) = W2 at *
  generalize w2.heap.size = CX at *
  go_loopg [11] am (fun gg s11 wr => ∃ (i : Nat) (x : Ca) (A0 : Option Addr) (c0 : Nat) (hs1 : List Hd), i ≤ am ∧ am - i ≤ gg ∧ s11 = .int .i64 (i : Int) ∧ Aside (LastInv n m (l.take i).reverse x) ∧ Aside (CV (fun g => g ≠ CX) wr CX x A0 n c0 hs1) ∧ Aside (Below w.heap.size w wr))
  case atStart => exact ⟨0, _, A2, c2, hs2, Nat.zero_le _, by omega, rfl, (show Aside _ from L0), (show Aside _ from cv0), (show Aside _ from b3)⟩
  case round =>
    clear cv0 b3 L0
    obtain ⟨i, x, A0, c0, hs1, hi, hgi, rfl, HI, HC, HB⟩ := hrel
    have cv := HC.out
    by_cases hlt : i < am
    · have hltz : (i : Int) < (am : Int) := by omega
      have hil : i < l.length := by rw [HN.out]; exact hlt
      obtain ⟨ab, ao, rfl, hq0⟩ := (HS.out.below HB.out).at_ i hil
      have habw : ab < w.heap.size := HS.out.lt (fun _ => rfl) (by decide) (fun e => by rw [e] at hil; simp at hil) _ rfl
      have cq := hq0 0 _ rfl
      simp only [Nat.mul_one, Nat.add_zero] at cq
      obtain ⟨q, hqq⟩ : ∃ q, q = l[i]! := ⟨_, rfl⟩
      have hqg : 0 ≤ q ∧ q ≤ 255 := by rw [hqq, getElem!_pos l i hil]; exact HG.out _ (List.getElem_mem _)
      have htk : (l.take (i + 1)).reverse = q :: (l.take i).reverse := by rw [List.take_succ_eq_append_getElem hil, List.reverse_append, hqq, getElem!_pos l i hil]; rfl
      rw [← hqq] at cq
      have hst := HI.out.step (t := q) (v := (i : Int)) hqg.1 hqg.2 (by simp; omega)
      obtain ⟨y, z, hy⟩ : ∃ y z, putC x q 1 (i : Int) = (y, z, 0) := ⟨_, (putC x q 1 (i : Int)).2.1, by rw [← hst.1]⟩
      rw [hy] at hst
      have HST := Lib.hid hst.2
      have HTK := Lib.hid htk
      have hLn := HI.out.num
      have hLs := HI.out.small
      have hLw := HI.out.wf
      have hyn : y.lines.length = n := hst.2.num
      have cP := fun wz (hz : Below wr.drew.heap.size wr.drew wz) => GivesP.num (put_any A0 c0 n x hs1 q 1 (i : Int) wz ((cv.cin.below (Below.refl _ _).drew).below hz) hLn (by omega) hLs hLw) hy hyn
      have hcP : ∀ wz, Below wr.drew.heap.size wr.drew wz → Calls Try.prog 8 #[.agg #[.int .i64 x.sets, .int .i64 x.ways, .int .i64 x.clock, .slice A0 n c0], .int .i64 q, .int .i64 1, .int .u32 (i : Int)] wz fun e w' => ∃ A d hs, e = .returned (.tuple #[.agg #[.int .i64 y.sets, .int .i64 y.ways, .int .i64 y.clock, .slice A n d], .agg #[.int .i64 z.addr, .int .i64 z.state, .int .u32 z.val_, .int .i64 z.used], .int .i64 0]) ∧ OwnC w' wz.heap.size (.slice A n d) n y.lines hs ∧ Below wz.heap.size wz w' := cP
      have hw32 : IntKind.u32.wrap (i : Int) = (i : Int) := by simp [IntKind.wrap, IntKind.signed, IntKind.bits]; omega
      have hw64 : IntKind.i64.wrap q = q := IntWalk.i64_in _ (by omega)
      have cvd := cv.V.below (Below.refl _ _).drew
      have hcl := cv.V.lt
      have cqd : wr.drew.cell? ⟨ab, ao + i, none⟩ = some (.int .u8 q) := cq
      clear cP hst hLn hLs hLw hyn htk hqq hq0 hil cq
      go_wp2_with fail
      have cP := hcP
      have x0 := cvd.cell 0 _ rfl
      have x1 := cvd.cell 1 _ rfl
      have x2 := cvd.cell 2 _ rfl
      have x3 := cvd.cell 3 _ rfl
      have cq := cqd
      refine wp_region_rg (by kernel_rfl) (by kernel_rfl) [56, 57, 58, 59, 60, 61, 62, 63, 64, 55, 65, 66, 67, 12, 13, 14] (LaRPhi wr.drew x y z A0 n c0 ab ao am ac i q) ?h0 ⟨?q0, ?q1, ?q2, ?q3, ?q4, ?q5, ?q6, ?q7, ?q8, ?q9, ?q10, ?q11, ?q12, ?q13, ?q14, ?q15, ?q16, ?q17, trivial⟩ ?hend
      case h0 => exact ⟨_, _, _, _, _, _, _, _, _, _, _, _, _, _, _, _, _, rfl, ⟨Below.refl _ _, (fun h => by cases h), (fun h => by cases h), (fun h => by cases h), (fun h => by cases h), (fun h => by cases h), (fun h => by cases h), (fun h => by cases h), (fun h => by cases h), (fun h => by cases h), (fun h => by cases h), (fun h => by cases h), (fun h => by cases h), (fun h => by cases h), (fun h => by cases h), (fun h => by cases h), (fun h => by cases h), (fun h => by cases h), (fun h => by cases h), (fun h => by cases h), (fun h => by cases h)⟩, rfl⟩
      case q0 =>
        rintro L vs w' K ⟨u56, u57, u58, u59, u60, u61, u62, u63, u64, u55, u65, u66, u67, u12, u13, u14, wz, rfl, φ, rfl⟩ hL hpre hcl hK G hG
        simp [Region.binds, closedFrom] at hpre hcl
        have ce0 := (φ.b.cell (p := ⟨CX, 0, none⟩) (World.block_lt_of_cell? _ _ x0)).trans x0
        have ce1 := (φ.b.cell (p := ⟨CX, 1, none⟩) (World.block_lt_of_cell? _ _ x1)).trans x1
        have ce2 := (φ.b.cell (p := ⟨CX, 2, none⟩) (World.block_lt_of_cell? _ _ x2)).trans x2
        have ce3 := (φ.b.cell (p := ⟨CX, 3, none⟩) (World.block_lt_of_cell? _ _ x3)).trans x3
        have hk := hK [(.agg #[.int .i64 x.sets, .int .i64 x.ways, .int .i64 x.clock, .slice A0 n c0]), u57, u58, u59, u60, u61, u62, u63, u64, u55, u65, u66, u67, u12, u13, u14] wz ⟨_, _, _, _, _, _, _, _, _, _, _, _, _, _, _, _, wz, rfl,
          { b := φ.b,
            s0 := fun _ => rfl,
            s1 := fun h0 => φ.s1 (by simpa using h0),
            s2 := fun h0 => φ.s2 (by simpa using h0),
            s3 := fun h0 => φ.s3 (by simpa using h0),
            s4 := fun h0 => φ.s4 (by simpa using h0),
            s5 := fun h0 => φ.s5 (by simpa using h0),
            s6 := fun h0 => φ.s6 (by simpa using h0),
            s7 := fun h0 => φ.s7 (by simpa using h0),
            c8 := fun h => by
                obtain ⟨A, d, hs, e, o, f1, f2⟩ := φ.c8 (by simpa using h)
                exact ⟨A, d, hs, e, o, fun h => f1 (by simpa using h), fun h => f2 (by simpa using h)⟩,
            s9 := fun h0 => φ.s9 (by simpa using h0),
            s10 := fun h0 => φ.s10 (by simpa using h0),
            s11 := fun h0 => φ.s11 (by simpa using h0),
            s12 := fun h0 => φ.s12 (by simpa using h0),
            x13 := fun h0 => φ.x13 (by simpa using h0),
            z13 := fun h0 h1 => φ.z13 (by simpa using h0) (by simpa using h1),
            y13 := fun h0 => φ.y13 (by simpa using h0),
            x14 := fun h0 => φ.x14 (by simpa using h0),
            z14 := fun h0 h1 => φ.z14 (by simpa using h0) (by simpa using h1),
            ne := fun h0 h1 => φ.ne (by simpa using h0) (by simpa using h1),
            s17 := fun h0 => φ.s17 (by simpa using h0) }, rfl⟩
        refine hG ?_
        clear hK φ hG
        revert hk
        go_simp
        first | done | exact fun h => h
      case q1 =>
        rintro L vs w' K ⟨u56, u57, u58, u59, u60, u61, u62, u63, u64, u55, u65, u66, u67, u12, u13, u14, wz, rfl, φ, rfl⟩ hL hpre hcl hK G hG
        simp [Region.binds, closedFrom] at hpre hcl
        have hk := hK [u56, (.slice (some ⟨ab, ao, none⟩) am ac), u58, u59, u60, u61, u62, u63, u64, u55, u65, u66, u67, u12, u13, u14] wz ⟨_, _, _, _, _, _, _, _, _, _, _, _, _, _, _, _, wz, rfl,
          { b := φ.b,
            s0 := fun h0 => φ.s0 (by simpa using h0),
            s1 := fun _ => rfl,
            s2 := fun h0 => φ.s2 (by simpa using h0),
            s3 := fun h0 => φ.s3 (by simpa using h0),
            s4 := fun h0 => φ.s4 (by simpa using h0),
            s5 := fun h0 => φ.s5 (by simpa using h0),
            s6 := fun h0 => φ.s6 (by simpa using h0),
            s7 := fun h0 => φ.s7 (by simpa using h0),
            c8 := fun h => by
                obtain ⟨A, d, hs, e, o, f1, f2⟩ := φ.c8 (by simpa using h)
                exact ⟨A, d, hs, e, o, fun h => f1 (by simpa using h), fun h => f2 (by simpa using h)⟩,
            s9 := fun h0 => φ.s9 (by simpa using h0),
            s10 := fun h0 => φ.s10 (by simpa using h0),
            s11 := fun h0 => φ.s11 (by simpa using h0),
            s12 := fun h0 => φ.s12 (by simpa using h0),
            x13 := fun h0 => φ.x13 (by simpa using h0),
            z13 := fun h0 h1 => φ.z13 (by simpa using h0) (by simpa using h1),
            y13 := fun h0 => φ.y13 (by simpa using h0),
            x14 := fun h0 => φ.x14 (by simpa using h0),
            z14 := fun h0 h1 => φ.z14 (by simpa using h0) (by simpa using h1),
            ne := fun h0 h1 => φ.ne (by simpa using h0) (by simpa using h1),
            s17 := fun h0 => φ.s17 (by simpa using h0) }, rfl⟩
        refine hG ?_
        clear hK φ hG
        revert hk
        go_simp
        first | done | exact fun h => h
      case q2 =>
        rintro L vs w' K ⟨u56, u57, u58, u59, u60, u61, u62, u63, u64, u55, u65, u66, u67, u12, u13, u14, wz, rfl, φ, rfl⟩ hL hpre hcl hK G hG
        simp [Region.binds, closedFrom] at hpre hcl
        have hk := hK [u56, u57, (.int .i64 (i : Int)), u59, u60, u61, u62, u63, u64, u55, u65, u66, u67, u12, u13, u14] wz ⟨_, _, _, _, _, _, _, _, _, _, _, _, _, _, _, _, wz, rfl,
          { b := φ.b,
            s0 := fun h0 => φ.s0 (by simpa using h0),
            s1 := fun h0 => φ.s1 (by simpa using h0),
            s2 := fun _ => rfl,
            s3 := fun h0 => φ.s3 (by simpa using h0),
            s4 := fun h0 => φ.s4 (by simpa using h0),
            s5 := fun h0 => φ.s5 (by simpa using h0),
            s6 := fun h0 => φ.s6 (by simpa using h0),
            s7 := fun h0 => φ.s7 (by simpa using h0),
            c8 := fun h => by
                obtain ⟨A, d, hs, e, o, f1, f2⟩ := φ.c8 (by simpa using h)
                exact ⟨A, d, hs, e, o, fun h => f1 (by simpa using h), fun h => f2 (by simpa using h)⟩,
            s9 := fun h0 => φ.s9 (by simpa using h0),
            s10 := fun h0 => φ.s10 (by simpa using h0),
            s11 := fun h0 => φ.s11 (by simpa using h0),
            s12 := fun h0 => φ.s12 (by simpa using h0),
            x13 := fun h0 => φ.x13 (by simpa using h0),
            z13 := fun h0 h1 => φ.z13 (by simpa using h0) (by simpa using h1),
            y13 := fun h0 => φ.y13 (by simpa using h0),
            x14 := fun h0 => φ.x14 (by simpa using h0),
            z14 := fun h0 h1 => φ.z14 (by simpa using h0) (by simpa using h1),
            ne := fun h0 h1 => φ.ne (by simpa using h0) (by simpa using h1),
            s17 := fun h0 => φ.s17 (by simpa using h0) }, rfl⟩
        refine hG ?_
        clear hK φ hG
        revert hk
        go_simp
        first | done | exact fun h => h
      case q3 =>
        rintro L vs w' K ⟨u56, u57, u58, u59, u60, u61, u62, u63, u64, u55, u65, u66, u67, u12, u13, u14, wz, rfl, φ, rfl⟩ hL hpre hcl hK G hG
        simp [Region.binds, closedFrom] at hpre hcl
        have e1 := φ.s1 (by simp [hpre])
        subst e1
        have e2 := φ.s2 (by simp [hpre])
        subst e2
        have hk := hK [u56, (.slice (some ⟨ab, ao, none⟩) am ac), (.int .i64 (i : Int)), (.pointer (some ⟨ab, ao + i, none⟩)), u60, u61, u62, u63, u64, u55, u65, u66, u67, u12, u13, u14] wz ⟨_, _, _, _, _, _, _, _, _, _, _, _, _, _, _, _, wz, rfl,
          { b := φ.b,
            s0 := fun h0 => φ.s0 (by simpa using h0),
            s1 := fun h0 => φ.s1 (by simpa using h0),
            s2 := fun h0 => φ.s2 (by simpa using h0),
            s3 := fun _ => rfl,
            s4 := fun h0 => φ.s4 (by simpa using h0),
            s5 := fun h0 => φ.s5 (by simpa using h0),
            s6 := fun h0 => φ.s6 (by simpa using h0),
            s7 := fun h0 => φ.s7 (by simpa using h0),
            c8 := fun h => by
                obtain ⟨A, d, hs, e, o, f1, f2⟩ := φ.c8 (by simpa using h)
                exact ⟨A, d, hs, e, o, fun h => f1 (by simpa using h), fun h => f2 (by simpa using h)⟩,
            s9 := fun h0 => φ.s9 (by simpa using h0),
            s10 := fun h0 => φ.s10 (by simpa using h0),
            s11 := fun h0 => φ.s11 (by simpa using h0),
            s12 := fun h0 => φ.s12 (by simpa using h0),
            x13 := fun h0 => φ.x13 (by simpa using h0),
            z13 := fun h0 h1 => φ.z13 (by simpa using h0) (by simpa using h1),
            y13 := fun h0 => φ.y13 (by simpa using h0),
            x14 := fun h0 => φ.x14 (by simpa using h0),
            z14 := fun h0 h1 => φ.z14 (by simpa using h0) (by simpa using h1),
            ne := fun h0 h1 => φ.ne (by simpa using h0) (by simpa using h1),
            s17 := fun h0 => φ.s17 (by simpa using h0) }, rfl⟩
        refine hG ?_
        clear hK φ hG
        revert hk
        go_simp
        first | done | exact fun h => h
      case q4 =>
        rintro L vs w' K ⟨u56, u57, u58, u59, u60, u61, u62, u63, u64, u55, u65, u66, u67, u12, u13, u14, wz, rfl, φ, rfl⟩ hL hpre hcl hK G hG
        simp [Region.binds, closedFrom] at hpre hcl
        have e3 := φ.s3 (by simp [hpre])
        subst e3
        have ce := (φ.b.cell (p := ⟨ab, ao + i, none⟩) (World.block_lt_of_cell? _ _ cq)).trans cq
        have hk := hK [u56, u57, u58, (.pointer (some ⟨ab, ao + i, none⟩)), (.int .u8 q), u61, u62, u63, u64, u55, u65, u66, u67, u12, u13, u14] wz ⟨_, _, _, _, _, _, _, _, _, _, _, _, _, _, _, _, wz, rfl,
          { b := φ.b,
            s0 := fun h0 => φ.s0 (by simpa using h0),
            s1 := fun h0 => φ.s1 (by simpa using h0),
            s2 := fun h0 => φ.s2 (by simpa using h0),
            s3 := fun h0 => φ.s3 (by simpa using h0),
            s4 := fun _ => rfl,
            s5 := fun h0 => φ.s5 (by simpa using h0),
            s6 := fun h0 => φ.s6 (by simpa using h0),
            s7 := fun h0 => φ.s7 (by simpa using h0),
            c8 := fun h => by
                obtain ⟨A, d, hs, e, o, f1, f2⟩ := φ.c8 (by simpa using h)
                exact ⟨A, d, hs, e, o, fun h => f1 (by simpa using h), fun h => f2 (by simpa using h)⟩,
            s9 := fun h0 => φ.s9 (by simpa using h0),
            s10 := fun h0 => φ.s10 (by simpa using h0),
            s11 := fun h0 => φ.s11 (by simpa using h0),
            s12 := fun h0 => φ.s12 (by simpa using h0),
            x13 := fun h0 => φ.x13 (by simpa using h0),
            z13 := fun h0 h1 => φ.z13 (by simpa using h0) (by simpa using h1),
            y13 := fun h0 => φ.y13 (by simpa using h0),
            x14 := fun h0 => φ.x14 (by simpa using h0),
            z14 := fun h0 h1 => φ.z14 (by simpa using h0) (by simpa using h1),
            ne := fun h0 h1 => φ.ne (by simpa using h0) (by simpa using h1),
            s17 := fun h0 => φ.s17 (by simpa using h0) }, rfl⟩
        refine hG ?_
        clear hK φ hG
        revert hk
        go_simp
        first | done | exact fun h => h
      case q5 =>
        rintro L vs w' K ⟨u56, u57, u58, u59, u60, u61, u62, u63, u64, u55, u65, u66, u67, u12, u13, u14, wz, rfl, φ, rfl⟩ hL hpre hcl hK G hG
        simp [Region.binds, closedFrom] at hpre hcl
        have e4 := φ.s4 (by simp [hpre])
        subst e4
        have hk := hK [u56, u57, u58, u59, (.int .u8 q), (.int .i64 q), u62, u63, u64, u55, u65, u66, u67, u12, u13, u14] wz ⟨_, _, _, _, _, _, _, _, _, _, _, _, _, _, _, _, wz, rfl,
          { b := φ.b,
            s0 := fun h0 => φ.s0 (by simpa using h0),
            s1 := fun h0 => φ.s1 (by simpa using h0),
            s2 := fun h0 => φ.s2 (by simpa using h0),
            s3 := fun h0 => φ.s3 (by simpa using h0),
            s4 := fun h0 => φ.s4 (by simpa using h0),
            s5 := fun _ => rfl,
            s6 := fun h0 => φ.s6 (by simpa using h0),
            s7 := fun h0 => φ.s7 (by simpa using h0),
            c8 := fun h => by
                obtain ⟨A, d, hs, e, o, f1, f2⟩ := φ.c8 (by simpa using h)
                exact ⟨A, d, hs, e, o, fun h => f1 (by simpa using h), fun h => f2 (by simpa using h)⟩,
            s9 := fun h0 => φ.s9 (by simpa using h0),
            s10 := fun h0 => φ.s10 (by simpa using h0),
            s11 := fun h0 => φ.s11 (by simpa using h0),
            s12 := fun h0 => φ.s12 (by simpa using h0),
            x13 := fun h0 => φ.x13 (by simpa using h0),
            z13 := fun h0 h1 => φ.z13 (by simpa using h0) (by simpa using h1),
            y13 := fun h0 => φ.y13 (by simpa using h0),
            x14 := fun h0 => φ.x14 (by simpa using h0),
            z14 := fun h0 h1 => φ.z14 (by simpa using h0) (by simpa using h1),
            ne := fun h0 h1 => φ.ne (by simpa using h0) (by simpa using h1),
            s17 := fun h0 => φ.s17 (by simpa using h0) }, rfl⟩
        refine hG ?_
        clear hK φ hG
        revert hk
        go_simp
        first | done | exact fun h => h
      case q6 =>
        rintro L vs w' K ⟨u56, u57, u58, u59, u60, u61, u62, u63, u64, u55, u65, u66, u67, u12, u13, u14, wz, rfl, φ, rfl⟩ hL hpre hcl hK G hG
        simp [Region.binds, closedFrom] at hpre hcl
        have hk := hK [u56, u57, u58, u59, u60, u61, (.int .i64 (i : Int)), u63, u64, u55, u65, u66, u67, u12, u13, u14] wz ⟨_, _, _, _, _, _, _, _, _, _, _, _, _, _, _, _, wz, rfl,
          { b := φ.b,
            s0 := fun h0 => φ.s0 (by simpa using h0),
            s1 := fun h0 => φ.s1 (by simpa using h0),
            s2 := fun h0 => φ.s2 (by simpa using h0),
            s3 := fun h0 => φ.s3 (by simpa using h0),
            s4 := fun h0 => φ.s4 (by simpa using h0),
            s5 := fun h0 => φ.s5 (by simpa using h0),
            s6 := fun _ => rfl,
            s7 := fun h0 => φ.s7 (by simpa using h0),
            c8 := fun h => by
                obtain ⟨A, d, hs, e, o, f1, f2⟩ := φ.c8 (by simpa using h)
                exact ⟨A, d, hs, e, o, fun h => f1 (by simpa using h), fun h => f2 (by simpa using h)⟩,
            s9 := fun h0 => φ.s9 (by simpa using h0),
            s10 := fun h0 => φ.s10 (by simpa using h0),
            s11 := fun h0 => φ.s11 (by simpa using h0),
            s12 := fun h0 => φ.s12 (by simpa using h0),
            x13 := fun h0 => φ.x13 (by simpa using h0),
            z13 := fun h0 h1 => φ.z13 (by simpa using h0) (by simpa using h1),
            y13 := fun h0 => φ.y13 (by simpa using h0),
            x14 := fun h0 => φ.x14 (by simpa using h0),
            z14 := fun h0 h1 => φ.z14 (by simpa using h0) (by simpa using h1),
            ne := fun h0 h1 => φ.ne (by simpa using h0) (by simpa using h1),
            s17 := fun h0 => φ.s17 (by simpa using h0) }, rfl⟩
        refine hG ?_
        clear hK φ hG
        revert hk
        go_simp
        first | done | exact fun h => h
      case q7 =>
        rintro L vs w' K ⟨u56, u57, u58, u59, u60, u61, u62, u63, u64, u55, u65, u66, u67, u12, u13, u14, wz, rfl, φ, rfl⟩ hL hpre hcl hK G hG
        simp [Region.binds, closedFrom] at hpre hcl
        have e6 := φ.s6 (by simp [hpre])
        subst e6
        have hk := hK [u56, u57, u58, u59, u60, u61, (.int .i64 (i : Int)), (.int .u32 (i : Int)), u64, u55, u65, u66, u67, u12, u13, u14] wz ⟨_, _, _, _, _, _, _, _, _, _, _, _, _, _, _, _, wz, rfl,
          { b := φ.b,
            s0 := fun h0 => φ.s0 (by simpa using h0),
            s1 := fun h0 => φ.s1 (by simpa using h0),
            s2 := fun h0 => φ.s2 (by simpa using h0),
            s3 := fun h0 => φ.s3 (by simpa using h0),
            s4 := fun h0 => φ.s4 (by simpa using h0),
            s5 := fun h0 => φ.s5 (by simpa using h0),
            s6 := fun h0 => φ.s6 (by simpa using h0),
            s7 := fun _ => rfl,
            c8 := fun h => by
                obtain ⟨A, d, hs, e, o, f1, f2⟩ := φ.c8 (by simpa using h)
                exact ⟨A, d, hs, e, o, fun h => f1 (by simpa using h), fun h => f2 (by simpa using h)⟩,
            s9 := fun h0 => φ.s9 (by simpa using h0),
            s10 := fun h0 => φ.s10 (by simpa using h0),
            s11 := fun h0 => φ.s11 (by simpa using h0),
            s12 := fun h0 => φ.s12 (by simpa using h0),
            x13 := fun h0 => φ.x13 (by simpa using h0),
            z13 := fun h0 h1 => φ.z13 (by simpa using h0) (by simpa using h1),
            y13 := fun h0 => φ.y13 (by simpa using h0),
            x14 := fun h0 => φ.x14 (by simpa using h0),
            z14 := fun h0 h1 => φ.z14 (by simpa using h0) (by simpa using h1),
            ne := fun h0 h1 => φ.ne (by simpa using h0) (by simpa using h1),
            s17 := fun h0 => φ.s17 (by simpa using h0) }, rfl⟩
        refine hG ?_
        clear hK φ hG
        revert hk
        go_simp
        first | done | exact fun h => h
      case q8 =>
        rintro L vs w' K ⟨u56, u57, u58, u59, u60, u61, u62, u63, u64, u55, u65, u66, u67, u12, u13, u14, wz, rfl, φ, rfl⟩ hL hpre hcl hK G hG
        simp [Region.binds, closedFrom] at hpre hcl
        have e0 := φ.s0 (by simp [hpre])
        subst e0
        have e5 := φ.s5 (by simp [hpre])
        subst e5
        have e7 := φ.s7 (by simp [hpre])
        subst e7
        have L9 : L 9 = false := by
          cases h : L 9 with
          | false => rfl
          | true => simp [h, hL] at hcl
        have L10 : L 10 = false := by
          cases h : L 10 with
          | false => rfl
          | true => simp [h, hL, L9] at hcl
        have L11 : L 11 = false := by
          cases h : L 11 with
          | false => rfl
          | true => simp [h, hL, L9] at hcl
        have L12 : L 12 = false := by
          cases h : L 12 with
          | false => rfl
          | true => simp [h, hL, L9] at hcl
        have L15 : L 15 = false := by
          cases h : L 15 with
          | false => rfl
          | true => simp [h, hL, L10] at hcl
        have L16 : L 16 = false := by
          cases h : L 16 with
          | false => rfl
          | true => simp [h, hL, L15] at hcl
        have L17 : L 17 = false := by
          cases h : L 17 with
          | false => rfl
          | true => simp [h, hL, L16] at hcl
        refine hG (step_call wz rfl 8 #[.tmp 56, .tmp 61, .const (.int .i64 1), .tmp 63] #[26, 3, 3, 30] rfl #[.agg #[.int .i64 x.sets, .int .i64 x.ways, .int .i64 x.clock, .slice A0 n c0], .int .i64 q, .int .i64 1, .int .u32 (i : Int)] (by simp [Act.eval, Act.puts, Act.put]) (enters_of Try.func8 (by kernel_rfl) rfl) (cP wz φ.b) ?_)
        rintro e w9 ⟨A, d, hs, rfl, own, hb9⟩
        refine ⟨_, rfl, ?_⟩
        have hk := hK [(.agg #[.int .i64 x.sets, .int .i64 x.ways, .int .i64 x.clock, .slice A0 n c0]), u57, u58, u59, u60, (.int .i64 q), u62, (.int .u32 (i : Int)), (.tuple #[.agg #[.int .i64 y.sets, .int .i64 y.ways, .int .i64 y.clock, .slice A n d], .agg #[.int .i64 z.addr, .int .i64 z.state, .int .u32 z.val_, .int .i64 z.used], .int .i64 0]), u55, u65, u66, u67, u12, u13, u14] w9 ⟨_, _, _, _, _, _, _, _, _, _, _, _, _, _, _, _, w9, rfl,
          { b := φ.b.trans (hb9.mono φ.b.size),
            s0 := fun h0 => φ.s0 (by simpa using h0),
            s1 := fun h0 => φ.s1 (by simpa using h0),
            s2 := fun h0 => φ.s2 (by simpa using h0),
            s3 := fun h0 => φ.s3 (by simpa using h0),
            s4 := fun h0 => φ.s4 (by simpa using h0),
            s5 := fun h0 => φ.s5 (by simpa using h0),
            s6 := fun h0 => φ.s6 (by simpa using h0),
            s7 := fun h0 => φ.s7 (by simpa using h0),
            c8 := fun _ => ⟨A, d, hs, rfl, own.weaken φ.b.size, fun h X hX => by
                obtain ⟨X', e1, _, e3⟩ := φ.x13 (by simpa using h)
                rw [hX] at e1
                obtain rfl := ptr_inj e1
                exact OffC.old own e3, fun h X hX => by
                obtain ⟨X', e1, _, e3⟩ := φ.x14 (by simpa using h)
                rw [hX] at e1
                obtain rfl := ptr_inj e1
                exact OffC.old own e3⟩,
            s9 := fun h => by simp [L9] at h,
            s10 := fun h => by simp [L10] at h,
            s11 := fun h => by simp [L11] at h,
            s12 := fun h => by simp [L12] at h,
            x13 := fun h => by
                obtain ⟨X, e1, e2, e3⟩ := φ.x13 (by simpa using h)
                exact ⟨X, e1, e2, Nat.lt_of_lt_of_le e3 hb9.size⟩,
            z13 := fun h h2 X hX => (φ.z13 (by simpa using h) (by simpa using h2) X hX).below hb9,
            y13 := fun h => by simp [L15] at h,
            x14 := fun h => by
                obtain ⟨X, e1, e2, e3⟩ := φ.x14 (by simpa using h)
                exact ⟨X, e1, e2, Nat.lt_of_lt_of_le e3 hb9.size⟩,
            z14 := fun h h2 X hX => (φ.z14 (by simpa using h) (by simpa using h2) X hX).below hb9,
            ne := fun h0 h1 => φ.ne (by simpa using h0) (by simpa using h1),
            s17 := fun h => by simp [L17] at h }, rfl⟩
        clear hK φ hG
        revert hk
        go_simp
        first | done | exact fun h => h
      case q9 =>
        rintro L vs w' K ⟨u56, u57, u58, u59, u60, u61, u62, u63, u64, u55, u65, u66, u67, u12, u13, u14, wz, rfl, φ, rfl⟩ hL hpre hcl hK G hG
        simp [Region.binds, closedFrom] at hpre hcl
        obtain ⟨A, d, hs, e64, o, f1, f2⟩ := φ.c8 (by simp [hpre])
        subst e64
        have hk := hK [u56, u57, u58, u59, u60, u61, u62, u63, (.tuple #[.agg #[.int .i64 y.sets, .int .i64 y.ways, .int .i64 y.clock, .slice A n d], .agg #[.int .i64 z.addr, .int .i64 z.state, .int .u32 z.val_, .int .i64 z.used], .int .i64 0]), (.tuple #[.agg #[.int .i64 y.sets, .int .i64 y.ways, .int .i64 y.clock, .slice A n d], .agg #[.int .i64 z.addr, .int .i64 z.state, .int .u32 z.val_, .int .i64 z.used], .int .i64 0]), u65, u66, u67, u12, u13, u14] wz ⟨_, _, _, _, _, _, _, _, _, _, _, _, _, _, _, _, wz, rfl,
          { b := φ.b,
            s0 := fun h0 => φ.s0 (by simpa using h0),
            s1 := fun h0 => φ.s1 (by simpa using h0),
            s2 := fun h0 => φ.s2 (by simpa using h0),
            s3 := fun h0 => φ.s3 (by simpa using h0),
            s4 := fun h0 => φ.s4 (by simpa using h0),
            s5 := fun h0 => φ.s5 (by simpa using h0),
            s6 := fun h0 => φ.s6 (by simpa using h0),
            s7 := fun h0 => φ.s7 (by simpa using h0),
            c8 := fun _ => ⟨A, d, hs, rfl, o, fun h => f1 (by simpa using h), fun h => f2 (by simpa using h)⟩,
            s9 := fun _ => rfl,
            s10 := fun h0 => φ.s10 (by simpa using h0),
            s11 := fun h0 => φ.s11 (by simpa using h0),
            s12 := fun h0 => φ.s12 (by simpa using h0),
            x13 := fun h0 => φ.x13 (by simpa using h0),
            z13 := fun h0 h1 => φ.z13 (by simpa using h0) (by simpa using h1),
            y13 := fun h0 => φ.y13 (by simpa using h0),
            x14 := fun h0 => φ.x14 (by simpa using h0),
            z14 := fun h0 h1 => φ.z14 (by simpa using h0) (by simpa using h1),
            ne := fun h0 h1 => φ.ne (by simpa using h0) (by simpa using h1),
            s17 := fun h0 => φ.s17 (by simpa using h0) }, rfl⟩
        refine hG ?_
        clear hK φ hG
        revert hk
        go_simp
        first | done | exact fun h => h
      case q10 =>
        rintro L vs w' K ⟨u56, u57, u58, u59, u60, u61, u62, u63, u64, u55, u65, u66, u67, u12, u13, u14, wz, rfl, φ, rfl⟩ hL hpre hcl hK G hG
        simp [Region.binds, closedFrom] at hpre hcl
        obtain ⟨A, d, hs, e64, o, f1, f2⟩ := φ.c8 (by simp [hpre, hcl])
        subst e64
        have e9 := φ.s9 (by simp [hpre])
        subst e9
        have hk := hK [u56, u57, u58, u59, u60, u61, u62, u63, (.tuple #[.agg #[.int .i64 y.sets, .int .i64 y.ways, .int .i64 y.clock, .slice A n d], .agg #[.int .i64 z.addr, .int .i64 z.state, .int .u32 z.val_, .int .i64 z.used], .int .i64 0]), (.tuple #[.agg #[.int .i64 y.sets, .int .i64 y.ways, .int .i64 y.clock, .slice A n d], .agg #[.int .i64 z.addr, .int .i64 z.state, .int .u32 z.val_, .int .i64 z.used], .int .i64 0]), (.agg #[.int .i64 y.sets, .int .i64 y.ways, .int .i64 y.clock, .slice A n d]), u66, u67, u12, u13, u14] wz ⟨_, _, _, _, _, _, _, _, _, _, _, _, _, _, _, _, wz, rfl,
          { b := φ.b,
            s0 := fun h0 => φ.s0 (by simpa using h0),
            s1 := fun h0 => φ.s1 (by simpa using h0),
            s2 := fun h0 => φ.s2 (by simpa using h0),
            s3 := fun h0 => φ.s3 (by simpa using h0),
            s4 := fun h0 => φ.s4 (by simpa using h0),
            s5 := fun h0 => φ.s5 (by simpa using h0),
            s6 := fun h0 => φ.s6 (by simpa using h0),
            s7 := fun h0 => φ.s7 (by simpa using h0),
            c8 := fun _ => ⟨A, d, hs, rfl, o, fun h => f1 (by simpa using h), fun h => f2 (by simpa using h)⟩,
            s9 := fun _ => rfl,
            s10 := fun _ => rfl,
            s11 := fun h0 => φ.s11 (by simpa using h0),
            s12 := fun h0 => φ.s12 (by simpa using h0),
            x13 := fun h0 => φ.x13 (by simpa using h0),
            z13 := fun h0 h1 => φ.z13 (by simpa using h0) (by simpa using h1),
            y13 := fun h0 => φ.y13 (by simpa using h0),
            x14 := fun h0 => φ.x14 (by simpa using h0),
            z14 := fun h0 h1 => φ.z14 (by simpa using h0) (by simpa using h1),
            ne := fun h0 h1 => φ.ne (by simpa using h0) (by simpa using h1),
            s17 := fun h0 => φ.s17 (by simpa using h0) }, rfl⟩
        refine hG ?_
        clear hK φ hG
        revert hk
        go_simp
        first | done | exact fun h => h
      case q11 =>
        rintro L vs w' K ⟨u56, u57, u58, u59, u60, u61, u62, u63, u64, u55, u65, u66, u67, u12, u13, u14, wz, rfl, φ, rfl⟩ hL hpre hcl hK G hG
        simp [Region.binds, closedFrom] at hpre hcl
        obtain ⟨A, d, hs, e64, o, f1, f2⟩ := φ.c8 (by simp [hpre, hcl])
        subst e64
        have e9 := φ.s9 (by simp [hpre])
        subst e9
        have hk := hK [u56, u57, u58, u59, u60, u61, u62, u63, (.tuple #[.agg #[.int .i64 y.sets, .int .i64 y.ways, .int .i64 y.clock, .slice A n d], .agg #[.int .i64 z.addr, .int .i64 z.state, .int .u32 z.val_, .int .i64 z.used], .int .i64 0]), (.tuple #[.agg #[.int .i64 y.sets, .int .i64 y.ways, .int .i64 y.clock, .slice A n d], .agg #[.int .i64 z.addr, .int .i64 z.state, .int .u32 z.val_, .int .i64 z.used], .int .i64 0]), u65, (.agg #[.int .i64 z.addr, .int .i64 z.state, .int .u32 z.val_, .int .i64 z.used]), u67, u12, u13, u14] wz ⟨_, _, _, _, _, _, _, _, _, _, _, _, _, _, _, _, wz, rfl,
          { b := φ.b,
            s0 := fun h0 => φ.s0 (by simpa using h0),
            s1 := fun h0 => φ.s1 (by simpa using h0),
            s2 := fun h0 => φ.s2 (by simpa using h0),
            s3 := fun h0 => φ.s3 (by simpa using h0),
            s4 := fun h0 => φ.s4 (by simpa using h0),
            s5 := fun h0 => φ.s5 (by simpa using h0),
            s6 := fun h0 => φ.s6 (by simpa using h0),
            s7 := fun h0 => φ.s7 (by simpa using h0),
            c8 := fun _ => ⟨A, d, hs, rfl, o, fun h => f1 (by simpa using h), fun h => f2 (by simpa using h)⟩,
            s9 := fun _ => rfl,
            s10 := fun h0 => φ.s10 (by simpa using h0),
            s11 := fun _ => rfl,
            s12 := fun h0 => φ.s12 (by simpa using h0),
            x13 := fun h0 => φ.x13 (by simpa using h0),
            z13 := fun h0 h1 => φ.z13 (by simpa using h0) (by simpa using h1),
            y13 := fun h0 => φ.y13 (by simpa using h0),
            x14 := fun h0 => φ.x14 (by simpa using h0),
            z14 := fun h0 h1 => φ.z14 (by simpa using h0) (by simpa using h1),
            ne := fun h0 h1 => φ.ne (by simpa using h0) (by simpa using h1),
            s17 := fun h0 => φ.s17 (by simpa using h0) }, rfl⟩
        refine hG ?_
        clear hK φ hG
        revert hk
        go_simp
        first | done | exact fun h => h
      case q12 =>
        rintro L vs w' K ⟨u56, u57, u58, u59, u60, u61, u62, u63, u64, u55, u65, u66, u67, u12, u13, u14, wz, rfl, φ, rfl⟩ hL hpre hcl hK G hG
        simp [Region.binds, closedFrom] at hpre hcl
        obtain ⟨A, d, hs, e64, o, f1, f2⟩ := φ.c8 (by simp [hpre, hcl])
        subst e64
        have e9 := φ.s9 (by simp [hpre])
        subst e9
        have hk := hK [u56, u57, u58, u59, u60, u61, u62, u63, (.tuple #[.agg #[.int .i64 y.sets, .int .i64 y.ways, .int .i64 y.clock, .slice A n d], .agg #[.int .i64 z.addr, .int .i64 z.state, .int .u32 z.val_, .int .i64 z.used], .int .i64 0]), (.tuple #[.agg #[.int .i64 y.sets, .int .i64 y.ways, .int .i64 y.clock, .slice A n d], .agg #[.int .i64 z.addr, .int .i64 z.state, .int .u32 z.val_, .int .i64 z.used], .int .i64 0]), u65, u66, (.int .i64 0), u12, u13, u14] wz ⟨_, _, _, _, _, _, _, _, _, _, _, _, _, _, _, _, wz, rfl,
          { b := φ.b,
            s0 := fun h0 => φ.s0 (by simpa using h0),
            s1 := fun h0 => φ.s1 (by simpa using h0),
            s2 := fun h0 => φ.s2 (by simpa using h0),
            s3 := fun h0 => φ.s3 (by simpa using h0),
            s4 := fun h0 => φ.s4 (by simpa using h0),
            s5 := fun h0 => φ.s5 (by simpa using h0),
            s6 := fun h0 => φ.s6 (by simpa using h0),
            s7 := fun h0 => φ.s7 (by simpa using h0),
            c8 := fun _ => ⟨A, d, hs, rfl, o, fun h => f1 (by simpa using h), fun h => f2 (by simpa using h)⟩,
            s9 := fun _ => rfl,
            s10 := fun h0 => φ.s10 (by simpa using h0),
            s11 := fun h0 => φ.s11 (by simpa using h0),
            s12 := fun _ => rfl,
            x13 := fun h0 => φ.x13 (by simpa using h0),
            z13 := fun h0 h1 => φ.z13 (by simpa using h0) (by simpa using h1),
            y13 := fun h0 => φ.y13 (by simpa using h0),
            x14 := fun h0 => φ.x14 (by simpa using h0),
            z14 := fun h0 h1 => φ.z14 (by simpa using h0) (by simpa using h1),
            ne := fun h0 h1 => φ.ne (by simpa using h0) (by simpa using h1),
            s17 := fun h0 => φ.s17 (by simpa using h0) }, rfl⟩
        refine hG ?_
        clear hK φ hG
        revert hk
        go_simp
        first | done | exact fun h => h
      case q13 =>
        rintro L vs w' K ⟨u56, u57, u58, u59, u60, u61, u62, u63, u64, u55, u65, u66, u67, u12, u13, u14, wz, rfl, φ, rfl⟩ hL hpre hcl hK G hG
        simp [Region.binds, closedFrom] at hpre hcl
        have L15 : L 15 = false := by
          cases h : L 15 with
          | false => rfl
          | true => simp [h, hL] at hcl
        have L16 : L 16 = false := by
          cases h : L 16 with
          | false => rfl
          | true => simp [h, hL] at hcl
        have hk := hK [u56, u57, u58, u59, u60, u61, u62, u63, u64, u55, u65, u66, u67, (.pointer (some ⟨wz.heap.size, 0, none⟩)), u13, u14] (wz.alloc (.cells #[.int .i64 0, .int .i64 0, .int .i64 0, .slice none 0 0] 26)) ⟨_, _, _, _, _, _, _, _, _, _, _, _, _, _, _, _, (wz.alloc (.cells #[.int .i64 0, .int .i64 0, .int .i64 0, .slice none 0 0] 26)), rfl,
          { b := φ.b.alloc φ.b.size _,
            s0 := fun h0 => φ.s0 (by simpa using h0),
            s1 := fun h0 => φ.s1 (by simpa using h0),
            s2 := fun h0 => φ.s2 (by simpa using h0),
            s3 := fun h0 => φ.s3 (by simpa using h0),
            s4 := fun h0 => φ.s4 (by simpa using h0),
            s5 := fun h0 => φ.s5 (by simpa using h0),
            s6 := fun h0 => φ.s6 (by simpa using h0),
            s7 := fun h0 => φ.s7 (by simpa using h0),
            c8 := fun h => by
                obtain ⟨A, d, hs, e, o, f1, f2⟩ := φ.c8 (by simpa using h)
                exact ⟨A, d, hs, e, o.below ((Below.refl _ _).alloc (Nat.le_refl _) _), fun _ X hX => by
                obtain rfl := ptr_inj hX
                exact OffC.new o (Nat.le_refl _), fun h => f2 (by simpa using h)⟩,
            s9 := fun h0 => φ.s9 (by simpa using h0),
            s10 := fun h0 => φ.s10 (by simpa using h0),
            s11 := fun h0 => φ.s11 (by simpa using h0),
            s12 := fun h0 => φ.s12 (by simpa using h0),
            x13 := fun _ => ⟨wz.heap.size, rfl, φ.b.size, by simp⟩,
            z13 := fun _ _ X hX => by
                obtain rfl := ptr_inj hX
                exact Bx.new wz _ 26,
            y13 := fun h => by simp [L15] at h,
            x14 := fun h => by
                obtain ⟨X, e1, e2, e3⟩ := φ.x14 (by simpa using h)
                exact ⟨X, e1, e2, Nat.lt_of_lt_of_le e3 (by simp)⟩,
            z14 := fun h h2 X hX => (φ.z14 (by simpa using h) (by simpa using h2) X hX).alloc _,
            ne := fun _ h X Y hX hY => by
                obtain ⟨Y', e1, _, e3⟩ := φ.x14 (by simpa using h)
                rw [hY] at e1
                obtain rfl := ptr_inj e1
                obtain rfl := ptr_inj hX
                omega,
            s17 := fun h0 => φ.s17 (by simpa using h0) }, rfl⟩
        refine hG ?_
        clear hK φ hG
        revert hk
        go_simp
        first | done | exact fun h => h
      case q14 =>
        rintro L vs w' K ⟨u56, u57, u58, u59, u60, u61, u62, u63, u64, u55, u65, u66, u67, u12, u13, u14, wz, rfl, φ, rfl⟩ hL hpre hcl hK G hG
        simp [Region.binds, closedFrom] at hpre hcl
        have L15 : L 15 = false := by
          cases h : L 15 with
          | false => rfl
          | true => simp [h, hL] at hcl
        have L16 : L 16 = false := by
          cases h : L 16 with
          | false => rfl
          | true => simp [h, hL] at hcl
        have hk := hK [u56, u57, u58, u59, u60, u61, u62, u63, u64, u55, u65, u66, u67, u12, (.pointer (some ⟨wz.heap.size, 0, none⟩)), u14] (wz.alloc (.cells #[.int .i64 0, .int .i64 0, .int .u32 0, .int .i64 0] 32)) ⟨_, _, _, _, _, _, _, _, _, _, _, _, _, _, _, _, (wz.alloc (.cells #[.int .i64 0, .int .i64 0, .int .u32 0, .int .i64 0] 32)), rfl,
          { b := φ.b.alloc φ.b.size _,
            s0 := fun h0 => φ.s0 (by simpa using h0),
            s1 := fun h0 => φ.s1 (by simpa using h0),
            s2 := fun h0 => φ.s2 (by simpa using h0),
            s3 := fun h0 => φ.s3 (by simpa using h0),
            s4 := fun h0 => φ.s4 (by simpa using h0),
            s5 := fun h0 => φ.s5 (by simpa using h0),
            s6 := fun h0 => φ.s6 (by simpa using h0),
            s7 := fun h0 => φ.s7 (by simpa using h0),
            c8 := fun h => by
                obtain ⟨A, d, hs, e, o, f1, f2⟩ := φ.c8 (by simpa using h)
                exact ⟨A, d, hs, e, o.below ((Below.refl _ _).alloc (Nat.le_refl _) _), fun h => f1 (by simpa using h), fun _ X hX => by
                obtain rfl := ptr_inj hX
                exact OffC.new o (Nat.le_refl _)⟩,
            s9 := fun h0 => φ.s9 (by simpa using h0),
            s10 := fun h0 => φ.s10 (by simpa using h0),
            s11 := fun h0 => φ.s11 (by simpa using h0),
            s12 := fun h0 => φ.s12 (by simpa using h0),
            x13 := fun h => by
                obtain ⟨X, e1, e2, e3⟩ := φ.x13 (by simpa using h)
                exact ⟨X, e1, e2, Nat.lt_of_lt_of_le e3 (by simp)⟩,
            z13 := fun h h2 X hX => (φ.z13 (by simpa using h) (by simpa using h2) X hX).alloc _,
            y13 := fun h => by simp [L15] at h,
            x14 := fun _ => ⟨wz.heap.size, rfl, φ.b.size, by simp⟩,
            z14 := fun _ _ X hX => by
                obtain rfl := ptr_inj hX
                exact Bx.new wz _ 32,
            ne := fun h _ X Y hX hY => by
                obtain ⟨X', e1, _, e3⟩ := φ.x13 (by simpa using h)
                rw [hX] at e1
                obtain rfl := ptr_inj e1
                obtain rfl := ptr_inj hY
                omega,
            s17 := fun h0 => φ.s17 (by simpa using h0) }, rfl⟩
        refine hG ?_
        clear hK φ hG
        revert hk
        go_simp
        first | done | exact fun h => h
      case q15 =>
        rintro L vs w' K ⟨u56, u57, u58, u59, u60, u61, u62, u63, u64, u55, u65, u66, u67, u12, u13, u14, wz, rfl, φ, rfl⟩ hL hpre hcl hK G hG
        simp [Region.binds, closedFrom] at hpre hcl
        obtain ⟨A, d, hs, e64, o, f1, f2⟩ := φ.c8 (by simp [hpre])
        subst e64
        have e10 : u65 = .agg #[.int .i64 y.sets, .int .i64 y.ways, .int .i64 y.clock, .slice A n d] := φ.s10 (by simp [hpre])
        subst e10
        obtain ⟨X, e12, g2, g3⟩ := φ.x13 (by simp [hpre])
        subst e12
        have BX := φ.z13 (by simp [hpre]) hL X rfl
        have oX := f1 (by simp [hpre]) X rfl
        have L16 : L 16 = false := by
          cases h : L 16 with
          | false => rfl
          | true => simp [h, hL] at hcl
        have z0 := BX.cell 0 _ rfl
        have q0 := BX.froz 0
        have z1 := BX.cell 1 _ rfl
        have q1 := BX.froz 1
        have z2 := BX.cell 2 _ rfl
        have q2 := BX.froz 2
        have z3 := BX.cell 3 _ rfl
        have q3 := BX.froz 3
        have hk := hK [u56, u57, u58, u59, u60, u61, u62, u63, (.tuple #[.agg #[.int .i64 y.sets, .int .i64 y.ways, .int .i64 y.clock, .slice A n d], .agg #[.int .i64 z.addr, .int .i64 z.state, .int .u32 z.val_, .int .i64 z.used], .int .i64 0]), u55, (.agg #[.int .i64 y.sets, .int .i64 y.ways, .int .i64 y.clock, .slice A n d]), u66, u67, (.pointer (some ⟨X, 0, none⟩)), u13, u14] ((((wz.setCell ⟨X, 0, none⟩ (.int .i64 y.sets)).setCell ⟨X, 1, none⟩ (.int .i64 y.ways)).setCell ⟨X, 2, none⟩ (.int .i64 y.clock)).setCell ⟨X, 3, none⟩ (.slice A n d)) ⟨_, _, _, _, _, _, _, _, _, _, _, _, _, _, _, _, ((((wz.setCell ⟨X, 0, none⟩ (.int .i64 y.sets)).setCell ⟨X, 1, none⟩ (.int .i64 y.ways)).setCell ⟨X, 2, none⟩ (.int .i64 y.clock)).setCell ⟨X, 3, none⟩ (.slice A n d)), rfl,
          { b := ((((φ.b.setCell (p := ⟨X, 0, none⟩) g2 _).setCell (p := ⟨X, 1, none⟩) g2 _).setCell (p := ⟨X, 2, none⟩) g2 _).setCell (p := ⟨X, 3, none⟩) g2 _),
            s0 := fun h0 => φ.s0 (by simpa using h0),
            s1 := fun h0 => φ.s1 (by simpa using h0),
            s2 := fun h0 => φ.s2 (by simpa using h0),
            s3 := fun h0 => φ.s3 (by simpa using h0),
            s4 := fun h0 => φ.s4 (by simpa using h0),
            s5 := fun h0 => φ.s5 (by simpa using h0),
            s6 := fun h0 => φ.s6 (by simpa using h0),
            s7 := fun h0 => φ.s7 (by simpa using h0),
            c8 := fun _ => ⟨A, d, hs, rfl, o.off4 oX _ _ _ _, fun h => f1 (by simpa using h), fun h => f2 (by simpa using h)⟩,
            s9 := fun h0 => φ.s9 (by simpa using h0),
            s10 := fun _ => rfl,
            s11 := fun h0 => φ.s11 (by simpa using h0),
            s12 := fun h0 => φ.s12 (by simpa using h0),
            x13 := fun _ => ⟨X, rfl, g2, by simpa using g3⟩,
            z13 := fun _ h => by simp at h,
            y13 := fun _ X' hX A' d' hA => by
                obtain rfl := ptr_inj hX
                obtain ⟨rfl, rfl⟩ : A = A' ∧ d = d' := by simpa using hA
                exact BX.set4 _ _ _ _,
            x14 := fun h => by
                obtain ⟨Y, e1, e2, e3⟩ := φ.x14 (by simpa using h)
                exact ⟨Y, e1, e2, by simpa using e3⟩,
            z14 := fun h h2 Y hY => (φ.z14 (by simpa using h) (by simpa using h2) Y hY).far4 (φ.ne (by simp [hpre]) (by simpa using h) X Y rfl hY) _ _ _ _,
            ne := fun h0 h1 => φ.ne (by simpa using h0) (by simpa using h1),
            s17 := fun h0 => φ.s17 (by simpa using h0) }, rfl⟩
        refine hG ?_
        clear hK φ hG
        revert hk
        go_simp
        first | done | exact fun h => h
      case q16 =>
        rintro L vs w' K ⟨u56, u57, u58, u59, u60, u61, u62, u63, u64, u55, u65, u66, u67, u12, u13, u14, wz, rfl, φ, rfl⟩ hL hpre hcl hK G hG
        simp [Region.binds, closedFrom] at hpre hcl
        obtain ⟨A, d, hs, e64, o, f1, f2⟩ := φ.c8 (by simp [hpre])
        subst e64
        have e11 : u66 = .agg #[.int .i64 z.addr, .int .i64 z.state, .int .u32 z.val_, .int .i64 z.used] := φ.s11 (by simp [hpre])
        subst e11
        obtain ⟨X, e13, g2, g3⟩ := φ.x14 (by simp [hpre])
        subst e13
        have BX := φ.z14 (by simp [hpre]) hL X rfl
        have oX := f2 (by simp [hpre]) X rfl
        have z0 := BX.cell 0 _ rfl
        have q0 := BX.froz 0
        have z1 := BX.cell 1 _ rfl
        have q1 := BX.froz 1
        have z2 := BX.cell 2 _ rfl
        have q2 := BX.froz 2
        have z3 := BX.cell 3 _ rfl
        have q3 := BX.froz 3
        have hk := hK [u56, u57, u58, u59, u60, u61, u62, u63, (.tuple #[.agg #[.int .i64 y.sets, .int .i64 y.ways, .int .i64 y.clock, .slice A n d], .agg #[.int .i64 z.addr, .int .i64 z.state, .int .u32 z.val_, .int .i64 z.used], .int .i64 0]), u55, u65, (.agg #[.int .i64 z.addr, .int .i64 z.state, .int .u32 z.val_, .int .i64 z.used]), u67, u12, (.pointer (some ⟨X, 0, none⟩)), u14] ((((wz.setCell ⟨X, 0, none⟩ (.int .i64 z.addr)).setCell ⟨X, 1, none⟩ (.int .i64 z.state)).setCell ⟨X, 2, none⟩ (.int .u32 z.val_)).setCell ⟨X, 3, none⟩ (.int .i64 z.used)) ⟨_, _, _, _, _, _, _, _, _, _, _, _, _, _, _, _, ((((wz.setCell ⟨X, 0, none⟩ (.int .i64 z.addr)).setCell ⟨X, 1, none⟩ (.int .i64 z.state)).setCell ⟨X, 2, none⟩ (.int .u32 z.val_)).setCell ⟨X, 3, none⟩ (.int .i64 z.used)), rfl,
          { b := ((((φ.b.setCell (p := ⟨X, 0, none⟩) g2 _).setCell (p := ⟨X, 1, none⟩) g2 _).setCell (p := ⟨X, 2, none⟩) g2 _).setCell (p := ⟨X, 3, none⟩) g2 _),
            s0 := fun h0 => φ.s0 (by simpa using h0),
            s1 := fun h0 => φ.s1 (by simpa using h0),
            s2 := fun h0 => φ.s2 (by simpa using h0),
            s3 := fun h0 => φ.s3 (by simpa using h0),
            s4 := fun h0 => φ.s4 (by simpa using h0),
            s5 := fun h0 => φ.s5 (by simpa using h0),
            s6 := fun h0 => φ.s6 (by simpa using h0),
            s7 := fun h0 => φ.s7 (by simpa using h0),
            c8 := fun _ => ⟨A, d, hs, rfl, o.off4 oX _ _ _ _, fun h => f1 (by simpa using h), fun h => f2 (by simpa using h)⟩,
            s9 := fun h0 => φ.s9 (by simpa using h0),
            s10 := fun h0 => φ.s10 (by simpa using h0),
            s11 := fun _ => rfl,
            s12 := fun h0 => φ.s12 (by simpa using h0),
            x13 := fun h => by
                obtain ⟨Y, e1, e2, e3⟩ := φ.x13 (by simpa using h)
                exact ⟨Y, e1, e2, by simpa using e3⟩,
            z13 := fun h h2 => by simp [hpre] at h2,
            y13 := fun h Y hY A' d' hA => (φ.y13 (by simpa using h) Y hY A' d' hA).far4 (Ne.symm (φ.ne (by simp [hpre]) (by simp [hpre]) Y X hY rfl)) _ _ _ _,
            x14 := fun _ => ⟨X, rfl, g2, by simpa using g3⟩,
            z14 := fun _ h => by simp at h,
            ne := fun h0 h1 => φ.ne (by simpa using h0) (by simpa using h1),
            s17 := fun h0 => φ.s17 (by simpa using h0) }, rfl⟩
        refine hG ?_
        clear hK φ hG
        revert hk
        go_simp
        first | done | exact fun h => h
      case q17 =>
        rintro L vs w' K ⟨u56, u57, u58, u59, u60, u61, u62, u63, u64, u55, u65, u66, u67, u12, u13, u14, wz, rfl, φ, rfl⟩ hL hpre hcl hK G hG
        simp [Region.binds, closedFrom] at hpre hcl
        obtain ⟨A, d, hs, e64, o, f1, f2⟩ := φ.c8 (by simp [hpre])
        subst e64
        have e12 : u67 = .int .i64 0 := φ.s12 (by simp [hpre])
        subst e12
        have hk := hK [u56, u57, u58, u59, u60, u61, u62, u63, (.tuple #[.agg #[.int .i64 y.sets, .int .i64 y.ways, .int .i64 y.clock, .slice A n d], .agg #[.int .i64 z.addr, .int .i64 z.state, .int .u32 z.val_, .int .i64 z.used], .int .i64 0]), u55, u65, u66, (.int .i64 0), u12, u13, (.int .i64 0)] wz ⟨_, _, _, _, _, _, _, _, _, _, _, _, _, _, _, _, wz, rfl,
          { b := φ.b,
            s0 := fun h0 => φ.s0 (by simpa using h0),
            s1 := fun h0 => φ.s1 (by simpa using h0),
            s2 := fun h0 => φ.s2 (by simpa using h0),
            s3 := fun h0 => φ.s3 (by simpa using h0),
            s4 := fun h0 => φ.s4 (by simpa using h0),
            s5 := fun h0 => φ.s5 (by simpa using h0),
            s6 := fun h0 => φ.s6 (by simpa using h0),
            s7 := fun h0 => φ.s7 (by simpa using h0),
            c8 := fun _ => ⟨A, d, hs, rfl, o, fun h => f1 (by simpa using h), fun h => f2 (by simpa using h)⟩,
            s9 := fun h0 => φ.s9 (by simpa using h0),
            s10 := fun h0 => φ.s10 (by simpa using h0),
            s11 := fun h0 => φ.s11 (by simpa using h0),
            s12 := fun _ => rfl,
            x13 := fun h0 => φ.x13 (by simpa using h0),
            z13 := fun h0 h1 => φ.z13 (by simpa using h0) (by simpa using h1),
            y13 := fun h0 => φ.y13 (by simpa using h0),
            x14 := fun h0 => φ.x14 (by simpa using h0),
            z14 := fun h0 h1 => φ.z14 (by simpa using h0) (by simpa using h1),
            ne := fun h0 h1 => φ.ne (by simpa using h0) (by simpa using h1),
            s17 := fun _ => rfl }, rfl⟩
        refine hG ?_
        clear hK φ hG
        revert hk
        go_simp
        first | done | exact fun h => h
      case hend =>
        rintro vs w' ⟨u56, u57, u58, u59, u60, u61, u62, u63, u64, u55, u65, u66, u67, u12, u13, u14, wz, rfl, φ, rfl⟩ G hG
        obtain ⟨A5, d5, hs5, e64, o5, f1, f2⟩ := φ.c8 rfl
        obtain ⟨X5, e12, g5, g6⟩ := φ.x13 rfl
        obtain ⟨X6, e13, g7, g8⟩ := φ.x14 rfl
        have B5 := φ.y13 rfl X5 e12 A5 d5 e64
        have e17 := φ.s17 rfl
        have b9 := φ.b
        clear φ
        subst e64
        subst e12
        subst e13
        replace e17 : u14 = .int .i64 0 := e17
        subst e17
        refine hG ?_
        clear hG
        replace B5 := B5
        have cvw := cvd.below b9
        have x0 := cvw.cell 0 _ rfl
        have x1 := cvw.cell 1 _ rfl
        have x2 := cvw.cell 2 _ rfl
        have x3 := cvw.cell 3 _ rfl
        have g0 := cvw.froz 0
        have g1 := cvw.froz 1
        have g2 := cvw.froz 2
        have g3 := cvw.froz 3
        have d0 := B5.cell 0 _ rfl
        have d1 := B5.cell 1 _ rfl
        have d2 := B5.cell 2 _ rfl
        have d3 := B5.cell 3 _ rfl
        have hCd : CX < wr.drew.heap.size := hcl
        have cvn := Lib.hid (CV.put (P := fun g => g ≠ CX) (y := y) cvw o5 (fun g hg => by omega) hCd)
        have BN := Lib.hid (((((HB.out.drew.trans (b9.mono HB.out.drew.size)).setCell (p := ⟨CX, 0, none⟩) hX (.int .i64 y.sets)).setCell (p := ⟨CX, 1, none⟩) hX (.int .i64 y.ways)).setCell (p := ⟨CX, 2, none⟩) hX (.int .i64 y.clock)).setCell (p := ⟨CX, 3, none⟩) hX (.slice A5 n d5))
        clear o5 f1 f2 cvw B5 cP hcP cv cvd b9
        go_simp
        go_wp2_with fail
        go_roundg (am - (i + 1))
        case measure => omega
        case rel => exact ⟨i + 1, y, A5, d5, hs5, by omega, by omega, by go_num, (show Aside _ from by rw [HTK.out]; exact HST.out), (show Aside _ from cvn.out), (show Aside _ from BN.out)⟩
    · obtain rfl : i = am := by omega
      have hltz : ¬ (i : Int) < (i : Int) := by omega
      have hall : l.take i = l := List.take_of_length_le (by rw [HN.out]; exact Nat.le_refl _)
      rw [hall] at HI
      clear hall
      obtain ⟨wo, rfl⟩ : ∃ wo, wo = wr := ⟨_, rfl⟩
      go_wp2_with fail
      go_loopg [15] 256 (fun gg s15 wr => ∃ a : Nat, a ≤ 256 ∧ 256 - a ≤ gg ∧ s15 = .int .i64 (a : Int) ∧ Aside (Below wo.heap.size wo wr))
      case atStart => exact ⟨0, by omega, by omega, rfl, (show Aside _ from Below.refl _ _)⟩
      case round =>
        obtain ⟨a, ha, hga, rfl, HBo⟩ := hrel
        by_cases hat : a < 256
        · have hatz : (a : Int) < 256 := by omega
          have hSX : wr.heap.size ≤ wr.heap.size := Nat.le_refl _
          have ar0 := ArrF.new35 wr
          have bS := (Below.refl wr.heap.size wr).alloc (Nat.le_refl _) (.cells Try.zeroCells35 35)
          have hwI : wrap64 ((i : Int) - 1) = (i : Int) - 1 := by unfold wrap64; omega
          have hwI2 : IntKind.i64.wrap ((i : Int) - 1) = (i : Int) - 1 := IntWalk.i64_in _ (by omega)
          obtain ⟨R, hR⟩ : ∃ R, many n a l.reverse [] 0 = R := ⟨_, rfl⟩
          have hR0 : many n a (l.take i).reverse [] 0 = R := by rw [List.take_of_length_le (by rw [HN.out]; exact Nat.le_refl _)]; exact hR
          have HR := Lib.hid hR
          have HR0 := Lib.hid hR0
          clear hR hR0
          go_wp2_with fail
          generalize hW6 : wr.alloc (.cells Try.zeroCells35 35) = W6 at *
          obtain ⟨SX, hSXe⟩ : ∃ SX, SX = wr.heap.size := ⟨_, rfl⟩
          rw [← hSXe] at ar0 ⊢
          have hlS : wr.heap.size ≤ SX := by omega
          obtain ⟨wb, rfl⟩ : ∃ wb, wb = wr := ⟨_, rfl⟩
          clear hW6 hSXe hwI hwI2
          go_loopg [17, 18, 19] i (fun gg s17 s18 s19 wq => ∃ (j k : Nat) (v : Int) (pf : Bool) (S : List Int), Aside (j ≤ i) ∧ j ≤ gg ∧ Aside (k + j ≤ i) ∧ s19 = .int .i64 v ∧ v = (j : Int) - 1 ∧ s18 = .bool pf ∧ s17 = .int .i64 (k : Int) ∧ Aside (ArrF wq SX 35 (fun b => .bool (decide ((b : Int) ∈ S)))) ∧ Aside (pf = false → many n a (l.take j).reverse S k = R) ∧ Aside (pf = true → R = some k) ∧ Aside (Below wb.heap.size wb wq))
          case atStart => exact ⟨i, 0, (i : Int) - 1, false, [], (show Aside _ from Nat.le_refl _), Nat.le_refl _, (show Aside _ from by show 0 + i ≤ i; omega), by go_num, rfl, rfl, rfl, (show Aside _ from ar0.congr (fun b _ => by simp)), (show Aside _ from fun _ => HR0.out), (show Aside _ from fun h => by cases h), (show Aside _ from bS)⟩
          case round =>
            clear ar0 bS
            obtain ⟨j, k, v, pf, S, HJ1, hgj, HKJ, rfl, hv, rfl, rfl, HA, HM, HP, HBq⟩ := hrel
            by_cases hj0 : j = 0
            · subst hj0
              obtain rfl : v = -1 := by omega
              clear hv
              cases pf with
              | false =>
                have hRk : R = none := by have := HM.out rfl; rw [List.take_zero, List.reverse_nil, many] at this; exact this.symm
                have hlook := HI.out.look (a := (a : Int)) (by omega)
                rw [HR.out, hRk] at hlook
                have hlk : (lookC x a).2 = false := by
                  rw [← Bool.not_eq_true]
                  intro h
                  obtain ⟨j', e, hj'⟩ := hlook.1 h
                  cases e
                clear hlook hRk
                have cvL := (HC.out.below HBo.out).below HBq.out
                have cK := look_any A0 c0 n x hs1 (a : Int) wr cvL.cin HI.out.num HI.out.wf
                rw [hlk] at cK
                generalize (lookC x a).1 = ln at cK
                have x0 := cvL.V.cell 0 _ rfl
                have x1 := cvL.V.cell 1 _ rfl
                have x2 := cvL.V.cell 2 _ rfl
                have x3 := cvL.V.cell 3 _ rfl
                clear cvL hlk
                go_wp2_with fail
                refine cK.mono ?_
                rintro e w9 ⟨rfl, hb9⟩
                have BZ := Lib.hid (((HBo.out.trans (HBq.out.mono HBo.out.size)).trans (hb9.mono (HBo.out.trans (HBq.out.mono HBo.out.size)).size)).alloc (HBo.out.trans ((HBq.out.trans (hb9.mono HBq.out.size)).mono HBo.out.size)).size (.cells #[.int .i64 ln.addr, .int .i64 ln.state, .int .u32 ln.val_, .int .i64 ln.used] 32))
                clear cK hb9 x0 x1 x2 x3
                go_wp2_with fail
                go_roundg (256 - (a + 1))
                case measure => omega
                case rel => exact ⟨a + 1, by omega, by omega, by go_num, (show Aside _ from BZ.out)⟩
              | true =>
                have hRk := HP.out rfl
                have hlook := HI.out.look (a := (a : Int)) (by omega)
                rw [HR.out, hRk] at hlook
                by_cases hkm : k < m
                · have hkz : (k : Int) < (m : Int) := by omega
                  have hkd : decide ((k : Int) < (m : Int)) = true := decide_eq_true hkz
                  have hlk : (lookC x a).2 = true := hlook.2 ⟨k, rfl, hkm⟩
                  clear hlook hRk hkm
                  have cvL := (HC.out.below HBo.out).below HBq.out
                  have cK := look_any A0 c0 n x hs1 (a : Int) wr cvL.cin HI.out.num HI.out.wf
                  rw [hlk] at cK
                  generalize (lookC x a).1 = ln at cK
                  have x0 := cvL.V.cell 0 _ rfl
                  have x1 := cvL.V.cell 1 _ rfl
                  have x2 := cvL.V.cell 2 _ rfl
                  have x3 := cvL.V.cell 3 _ rfl
                  clear cvL hlk
                  go_wp2_with fail
                  refine cK.mono ?_
                  rintro e w9 ⟨rfl, hb9⟩
                  have BZ := Lib.hid (((HBo.out.trans (HBq.out.mono HBo.out.size)).trans (hb9.mono (HBo.out.trans (HBq.out.mono HBo.out.size)).size)).alloc (HBo.out.trans ((HBq.out.trans (hb9.mono HBq.out.size)).mono HBo.out.size)).size (.cells #[.int .i64 ln.addr, .int .i64 ln.state, .int .u32 ln.val_, .int .i64 ln.used] 32))
                  clear cK hb9 x0 x1 x2 x3
                  go_wp2_with fail
                  go_roundg (256 - (a + 1))
                  case measure => omega
                  case rel => exact ⟨a + 1, by omega, by omega, by go_num, (show Aside _ from BZ.out)⟩
                · have hkz : ¬ (k : Int) < (m : Int) := by omega
                  have hkd : decide ((k : Int) < (m : Int)) = false := decide_eq_false hkz
                  have hlk : (lookC x a).2 = false := by
                    rw [← Bool.not_eq_true]
                    intro h
                    obtain ⟨j', e, hj'⟩ := hlook.1 h
                    injection e with e
                    omega
                  clear hlook hRk hkm
                  have cvL := (HC.out.below HBo.out).below HBq.out
                  have cK := look_any A0 c0 n x hs1 (a : Int) wr cvL.cin HI.out.num HI.out.wf
                  rw [hlk] at cK
                  generalize (lookC x a).1 = ln at cK
                  have x0 := cvL.V.cell 0 _ rfl
                  have x1 := cvL.V.cell 1 _ rfl
                  have x2 := cvL.V.cell 2 _ rfl
                  have x3 := cvL.V.cell 3 _ rfl
                  clear cvL hlk
                  go_wp2_with fail
                  refine cK.mono ?_
                  rintro e w9 ⟨rfl, hb9⟩
                  have BZ := Lib.hid (((HBo.out.trans (HBq.out.mono HBo.out.size)).trans (hb9.mono (HBo.out.trans (HBq.out.mono HBo.out.size)).size)).alloc (HBo.out.trans ((HBq.out.trans (hb9.mono HBq.out.size)).mono HBo.out.size)).size (.cells #[.int .i64 ln.addr, .int .i64 ln.state, .int .u32 ln.val_, .int .i64 ln.used] 32))
                  clear cK hb9 x0 x1 x2 x3
                  go_wp2_with fail
                  go_roundg (256 - (a + 1))
                  case measure => omega
                  case rel => exact ⟨a + 1, by omega, by omega, by go_num, (show Aside _ from BZ.out)⟩
            · obtain ⟨j, rfl⟩ : ∃ j', j = j' + 1 := ⟨j - 1, by omega⟩
              obtain rfl : v = (j : Int) := by omega
              clear hv
              have hjz : ¬ (j : Int) < 0 := by omega
              have hjz2 : (0 : Int) ≤ (j : Int) := by omega
              have hjz3 : decide ((j : Int) ≥ 0) = true := decide_eq_true hjz2
              cases pf with
              | true =>
                have hRk := HP.out rfl
                have hlook := HI.out.look (a := (a : Int)) (by omega)
                rw [HR.out, hRk] at hlook
                by_cases hkm : k < m
                · have hkz : (k : Int) < (m : Int) := by omega
                  have hkd : decide ((k : Int) < (m : Int)) = true := decide_eq_true hkz
                  have hlk : (lookC x a).2 = true := hlook.2 ⟨k, rfl, hkm⟩
                  clear hlook hRk hkm
                  have cvL := (HC.out.below HBo.out).below HBq.out
                  have cK := look_any A0 c0 n x hs1 (a : Int) wr cvL.cin HI.out.num HI.out.wf
                  rw [hlk] at cK
                  generalize (lookC x a).1 = ln at cK
                  have x0 := cvL.V.cell 0 _ rfl
                  have x1 := cvL.V.cell 1 _ rfl
                  have x2 := cvL.V.cell 2 _ rfl
                  have x3 := cvL.V.cell 3 _ rfl
                  clear cvL hlk
                  go_wp2_with fail
                  refine cK.mono ?_
                  rintro e w9 ⟨rfl, hb9⟩
                  have BZ := Lib.hid (((HBo.out.trans (HBq.out.mono HBo.out.size)).trans (hb9.mono (HBo.out.trans (HBq.out.mono HBo.out.size)).size)).alloc (HBo.out.trans ((HBq.out.trans (hb9.mono HBq.out.size)).mono HBo.out.size)).size (.cells #[.int .i64 ln.addr, .int .i64 ln.state, .int .u32 ln.val_, .int .i64 ln.used] 32))
                  clear cK hb9 x0 x1 x2 x3
                  go_wp2_with fail
                  go_roundg (256 - (a + 1))
                  case measure => omega
                  case rel => exact ⟨a + 1, by omega, by omega, by go_num, (show Aside _ from BZ.out)⟩
                · have hkz : ¬ (k : Int) < (m : Int) := by omega
                  have hkd : decide ((k : Int) < (m : Int)) = false := decide_eq_false hkz
                  have hlk : (lookC x a).2 = false := by
                    rw [← Bool.not_eq_true]
                    intro h
                    obtain ⟨j', e, hj'⟩ := hlook.1 h
                    injection e with e
                    omega
                  clear hlook hRk hkm
                  have cvL := (HC.out.below HBo.out).below HBq.out
                  have cK := look_any A0 c0 n x hs1 (a : Int) wr cvL.cin HI.out.num HI.out.wf
                  rw [hlk] at cK
                  generalize (lookC x a).1 = ln at cK
                  have x0 := cvL.V.cell 0 _ rfl
                  have x1 := cvL.V.cell 1 _ rfl
                  have x2 := cvL.V.cell 2 _ rfl
                  have x3 := cvL.V.cell 3 _ rfl
                  clear cvL hlk
                  go_wp2_with fail
                  refine cK.mono ?_
                  rintro e w9 ⟨rfl, hb9⟩
                  have BZ := Lib.hid (((HBo.out.trans (HBq.out.mono HBo.out.size)).trans (hb9.mono (HBo.out.trans (HBq.out.mono HBo.out.size)).size)).alloc (HBo.out.trans ((HBq.out.trans (hb9.mono HBq.out.size)).mono HBo.out.size)).size (.cells #[.int .i64 ln.addr, .int .i64 ln.state, .int .u32 ln.val_, .int .i64 ln.used] 32))
                  clear cK hb9 x0 x1 x2 x3
                  go_wp2_with fail
                  go_roundg (256 - (a + 1))
                  case measure => omega
                  case rel => exact ⟨a + 1, by omega, by omega, by go_num, (show Aside _ from BZ.out)⟩
              | false =>
                have hjl : j < l.length := by have := HJ1.out; rw [HN.out]; omega
                have bq := (HB.out.trans (HBo.out.mono HB.out.size)).trans (HBq.out.mono (HB.out.trans (HBo.out.mono HB.out.size)).size)
                obtain ⟨ab, ao, rfl, hq0⟩ := (HS.out.below bq).at_ j hjl
                have cq := hq0 0 _ rfl
                simp only [Nat.mul_one, Nat.add_zero] at cq
                have hqg : 0 ≤ l[j]! ∧ l[j]! ≤ 255 := by rw [getElem!_pos l j hjl]; exact HG.out _ (List.getElem_mem _)
                obtain ⟨b, hb⟩ : ∃ b : Nat, l[j]! = (b : Int) := ⟨l[j]!.toNat, by omega⟩
                have hb255 : b < 256 := by omega
                have hbz : (b : Int) < 256 := by omega
                rw [hb] at cq
                have htk : (l.take (j + 1)).reverse = (b : Int) :: (l.take j).reverse := by rw [List.take_succ_eq_append_getElem hjl, List.reverse_append, ← hb, getElem!_pos l j hjl]; rfl
                have hmn : many n a ((b : Int) :: (l.take j).reverse) S k = R := by rw [← htk]; exact HM.out rfl
                have hji : (j : Int) < (i : Int) := by have := HJ1.out; omega
                have hwj : wrap64 ((j : Int) - 1) = (j : Int) - 1 := by have := HJ1.out; unfold wrap64; omega
                have hbw : IntKind.i64.wrap (b : Int) = (b : Int) := IntWalk.i64_in _ (by omega)
                have ac1 := HA.out.cell hb255
                have af1 := HA.out.frozen b
                clear hq0 hqg htk hb hjl
                by_cases hba : (b : Int) = (a : Int)
                · have z1 : ((b : Int) == (a : Int)) = true := by rw [beq_iff_eq]; exact hba
                  have hRk : R = some k := by rw [← hmn, many, if_pos hba]
                  have HRK := Lib.hid hRk
                  clear hmn hRk hba
                  go_wp2_with fail
                  go_roundg j
                  case measure => omega
                  case rel => exact ⟨j, k, (j : Int) - 1, true, S, (show Aside _ from by have := HJ1.out; show j ≤ i; omega), by omega, (show Aside _ from by have := HKJ.out; show k + j ≤ i; omega), by go_num, rfl, rfl, rfl, HA, (show Aside _ from fun h => by cases h), (show Aside _ from fun _ => HRK.out), HBq⟩
                · have z1 : ((b : Int) == (a : Int)) = false := by rw [beq_eq_false_iff_ne]; exact hba
                  have n0 : ((n : Int) == 0) = false := by rw [beq_eq_false_iff_ne]; omega
                  have n0' : ¬ n = 0 := by omega
                  obtain ⟨rb, hrb, hrbm, hrb0, hrb8⟩ : ∃ rb : Int, (b : Int).tmod (n : Int) = rb ∧ (b : Int) % (n : Int) = rb ∧ 0 ≤ rb ∧ rb < 8 := by
                    rw [Int.tmod_eq_emod_of_nonneg (by omega)]
                    exact ⟨_, rfl, rfl, Int.emod_nonneg _ (by omega), by have := Int.emod_lt_of_pos (b : Int) (show 0 < (n : Int) by omega); omega⟩
                  obtain ⟨ra, hra, hram, hra0, hra8⟩ : ∃ ra : Int, (a : Int).tmod (n : Int) = ra ∧ (a : Int) % (n : Int) = ra ∧ 0 ≤ ra ∧ ra < 8 := by
                    rw [Int.tmod_eq_emod_of_nonneg (by omega)]
                    exact ⟨_, rfl, rfl, Int.emod_nonneg _ (by omega), by have := Int.emod_lt_of_pos (a : Int) (show 0 < (n : Int) by omega); omega⟩
                  have hrbw : IntKind.i64.wrap rb = rb := IntWalk.i64_in _ (by omega)
                  have hraw : IntKind.i64.wrap ra = ra := IntWalk.i64_in _ (by omega)
                  by_cases hrr : rb = ra
                  · have z2 : (rb == ra) = true := by rw [beq_iff_eq]; exact hrr
                    by_cases hin : (b : Int) ∈ S
                    · have hd : decide ((b : Int) ∈ S) = true := decide_eq_true hin
                      rw [hd] at ac1
                      have hm2 : many n a (l.take j).reverse S k = R := by rw [← hmn, many, if_neg hba, if_neg (fun h => h.2 hin)]
                      have HM2 := Lib.hid hm2
                      clear hmn hm2 hba hin hd
                      go_wp2_with fail
                      go_quiet (fail)
                      go_wp2_with fail
                      go_roundg j
                      case measure => omega
                      case rel => exact ⟨j, k, (j : Int) - 1, false, S, (show Aside _ from by have := HJ1.out; show j ≤ i; omega), by omega, (show Aside _ from by have := HKJ.out; show k + j ≤ i; omega), by go_num, rfl, rfl, rfl, (show Aside _ from HA.out.below (bdrewN (Below.refl _ _) _)), (show Aside _ from fun _ => HM2.out), (show Aside _ from fun h => by cases h), (show Aside _ from bdrewN HBq.out _)⟩
                    · have hd : decide ((b : Int) ∈ S) = false := decide_eq_false hin
                      rw [hd] at ac1
                      have hm2 : many n a (l.take j).reverse ((b : Int) :: S) (k + 1) = R := by rw [← hmn, many, if_neg hba, if_pos ⟨hrbm.trans (hrr.trans hram.symm), hin⟩]
                      have HM2 := Lib.hid hm2
                      have hwk : wrap64 ((k : Int) + 1) = (k : Int) + 1 := by have := HKJ.out; unfold wrap64; omega
                      have HNI := Lib.hid hin
                      clear hmn hm2 hba hin hd
                      go_wp2_with fail
                      go_quiet (fail)
                      have HAn := HA.out.below (bdrewN (Below.refl _ _) nq)
                      have BQn := bdrewN HBq.out nq
                      clear ac1 af1 cq
                      generalize wr.drewN nq = wn at *
                      have ac1 := HAn.cell hb255
                      have af1 := HAn.frozen b
                      have HS2 := Lib.hid ((HAn.set b (.bool true)).congr (g := fun c => .bool (decide ((c : Int) ∈ (b : Int) :: S))) (fun c _ => by
                        by_cases e : c = b
                        · subst e; simp
                        · have : ¬ (c : Int) = (b : Int) := by omega
                          simp [e, this]))
                      have BS2 := Lib.hid (BQn.setCell (p := ⟨SX, b, none⟩) hlS (.bool true))
                      clear HAn BQn
                      go_wp2_with fail
                      go_roundg j
                      case measure => omega
                      case rel => exact ⟨j, k + 1, (j : Int) - 1, false, (b : Int) :: S, (show Aside _ from by have := HJ1.out; show j ≤ i; omega), by omega, (show Aside _ from by have := HKJ.out; show k + 1 + j ≤ i; omega), by go_num, rfl, rfl, by rw [hwk]; rfl, (show Aside _ from HS2.out), (show Aside _ from fun _ => HM2.out), (show Aside _ from fun h => by cases h), (show Aside _ from BS2.out)⟩
                  · have z2 : (rb == ra) = false := by rw [beq_eq_false_iff_ne]; exact hrr
                    have hm2 : many n a (l.take j).reverse S k = R := by rw [← hmn, many, if_neg hba, if_neg (fun h => hrr (hrbm.symm.trans (h.1.trans hram)))]
                    have HM2 := Lib.hid hm2
                    clear hmn hm2 hba
                    go_wp2_with fail
                    go_quiet (fail)
                    go_wp2_with fail
                    go_roundg j
                    case measure => omega
                    case rel => exact ⟨j, k, (j : Int) - 1, false, S, (show Aside _ from by have := HJ1.out; show j ≤ i; omega), by omega, (show Aside _ from by have := HKJ.out; show k + j ≤ i; omega), by go_num, rfl, rfl, rfl, (show Aside _ from HA.out.below (bdrewN (Below.refl _ _) _)), (show Aside _ from fun _ => HM2.out), (show Aside _ from fun h => by cases h), (show Aside _ from bdrewN HBq.out _)⟩
        · obtain rfl : a = 256 := by omega
          have hatz : ¬ ((256 : Nat) : Int) < 256 := by omega
          have bF := HB.out.trans (HBo.out.mono HB.out.size)
          go_wp2_with fail
          go_ret
          exact ⟨rfl, bF⟩
end Go.Proofs.Ytdndanjabknjpaa
