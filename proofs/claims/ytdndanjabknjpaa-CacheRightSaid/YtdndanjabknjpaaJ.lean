/- The walk of slices.Delete at a row of the call's own, one element. -/
import Derived.Test.YtdndanjabknjpaaI
import Derived.Test.YtdndanjabknjpaaRg
import Derived.Laws.OwnMore
namespace Go.Proofs.Ytdndanjabknjpaa
open Go.RowKit Go.Lib
set_option linter.unusedVariables false
attribute [local go_sem] Act.puts

theorem step_append_fits {P : Program} {ops : Array Oper} {Q : Exit → Act → World → Prop} (w : World) {o : Oper} {a : Act} {K : Act → World → Prop} {E : Prop} (hgd : o.guard = none) (s x : Operand) (t : TypeId)
    (ho : o.op = .call { callee := .builtin .append, args := #[s, x], argTypes := #[t, t] })
    (base : Nat) (e : TypeId) (i : TypeInfo) (size : Nat) (ht : P.underlying t = some (.slice e)) (hi : P.info? e = some i) (hsize : i.size = size)
    (g n cap : Nat) (xs : List Value) (hs : a.eval s = .slice (some ⟨g, 0, none⟩) n cap) (hown : w.ownsRow base e size (.slice (some ⟨g, 0, none⟩) n cap) n xs)
    (ad : Addr) (m c : Nat) (news : List Value) (hx : a.eval x = .slice (some ad) m c) (hl : news.length = m * size) (hnews : ∀ j u, news[j]? = some u → w.cell? (ad.add j) = some u) (h1 : ∀ u ∈ news, u.oneCell' = true)
    (hroom : n + m ≤ cap)
    (h : ∀ w', w'.ownsRow base e size (.slice (some ⟨g, 0, none⟩) (n + m) cap) (n + m) (xs ++ news) → w.grownBy w' (some g) → K (a.put o.dst (.slice (some ⟨g, 0, none⟩) (n + m) cap)) w') :
    if Region.wanted o (yielded ops a.tmps) = true then Oper.wp P o a w K Q else E := by
  have hw : Region.wanted o (yielded ops a.tmps) = true := by simp [Region.wanted, hgd]
  rw [if_pos hw]
  obtain ⟨w', hr, h2, h3⟩ := run_append_fits (P := P) w base t o.type e i size ht hi hsize g n cap xs hown ad m c news hl hnews h1 hroom
  unfold Oper.wp execOp
  simp only [ho, resolve, invoke, builtin, Sem.run_bind, Sem.run_pure, Result.andThen_ok, List.map_toArray, List.map_cons, List.map_nil, hs, hx, hr]
  exact h w' h2 h3
structure DelR (w0 : World) (g n c i m base : Nat) (ad : Addr) (l : List Ln) (L : Nat → Bool) (u20 u21 u22 u23 u24 u25 u26 u0 : Value) (wz : World) : Prop where
  b : L 6 = false → wz = w0
  s0 : L 0 = true → u20 = .slice (some ⟨g, 0, none⟩) n c
  s1 : L 1 = true → u21 = .int .i64 (i : Int)
  s2 : L 2 = true → u22 = .slice (some ⟨g, 0, none⟩) i c
  s3 : L 3 = true → u23 = .slice (some ⟨g, 0, none⟩) n c
  s4 : L 4 = true → u24 = .int .i64 ((i : Int) + 1)
  s5 : L 5 = true → u25 = .slice (some ad) m (c - (i + 1))
  s6 : L 6 = true → u26 = .slice (some ⟨g, 0, none⟩) (i + m) c ∧ wz.ownsRow base 32 4 (.slice (some ⟨g, 0, none⟩) (i + m) c) (i + m) ((l.take i).flatMap Ln.enc ++ (l.drop (i + 1)).flatMap Ln.enc) ∧ w0.grownBy wz (some g)
  s7 : L 7 = true → u0 = .slice (some ⟨g, 0, none⟩) (i + m) c
  z0 : L 7 = false → u0 = .slice (some ⟨g, 0, none⟩) n c
def DelRPhi (w0 : World) (g n c i m base : Nat) (ad : Addr) (l : List Ln) (L : Nat → Bool) (vs : List Value) (w' : World) : Prop :=
  ∃ u20 u21 u22 u23 u24 u25 u26 u0 wz, vs = [u20, u21, u22, u23, u24, u25, u26, u0] ∧ DelR w0 g n c i m base ad l L u20 u21 u22 u23 u24 u25 u26 u0 wz ∧ wz = w'

set_option maxHeartbeats 8000000 in
set_option maxRecDepth 100000 in
theorem delete_any (g base n c i : Nat) (l : List Ln) (w : World) (own : w.ownsRow base 32 4 (.slice (some ⟨g, 0, none⟩) n c) n (l.flatMap Ln.enc)) (hn : l.length = n) (hi : i < n) (hn1 : n ≤ 1000000) :
    Calls Try.prog 37 #[.slice (some ⟨g, 0, none⟩) n c, .int .i64 (i : Int), .int .i64 ((i : Int) + 1)] w fun e w' => e = .returned (.slice (some ⟨g, 0, none⟩) (n - 1) c) ∧ w'.ownsRow base 32 4 (.slice (some ⟨g, 0, none⟩) (n - 1) c) (n - 1) ((l.eraseIdx i).flatMap Ln.enc) ∧ w.grownBy w' (some g) := by
  obtain ⟨i0, hi0, hz0, hz1, hz2⟩ := info_parts info32
  obtain ⟨hnc, hcm⟩ := own_cap own
  obtain ⟨m, hm⟩ : ∃ m, n = i + m + 1 := ⟨n - i - 1, by omega⟩
  have hm1 : n - 1 = i + m := by omega
  have hli : (l.take i).length = i := by rw [List.length_take]; omega
  have hlm : (l.drop (i + 1)).length = m := by rw [List.length_drop]; omega
  have hsl := Sl.of_own Ln.enc_len own hn
  have hsb := Sl.drop hsl (i + 1)
  rw [Nat.zero_add] at hsb
  obtain ⟨ad, had, hsb⟩ : ∃ ad, (if c = i + 1 then some ({ block := g, off := 0 } : Addr) else some { block := g, off := (i + 1) * 4 }) = some ad ∧ Sl 4 Ln.enc w (some ad) (l.drop (i + 1)) := by
    by_cases hc : c = i + 1
    · refine ⟨⟨g, 0, none⟩, by rw [if_pos hc], ?_⟩
      have : l.drop (i + 1) = [] := List.drop_of_length_le (by omega)
      rw [this]; exact Sl.nil _ _ _ _
    · exact ⟨_, by rw [if_neg hc], hsb⟩
  have ownT := own_take (n' := i) own (by omega)
  rw [flat_take Ln.enc_len] at ownT
  have hne : ((i : Int) == (i : Int) + 1) = false := by rw [beq_eq_false_iff_ne]; omega
  have hs1 : (i : Int) ≤ (i : Int) + 1 := by omega
  have hs2 : (i : Int) + 1 ≤ (n : Int) := by omega
  have hs3 : (n : Int) ≤ (c : Int) := by omega
  have hs4 : (i : Int) ≤ (c : Int) := by omega
  have hs0 : (0 : Int) ≤ (i : Int) + 1 := by omega
  have hs5 : (i : Int) ≤ (n : Int) := by omega
  have t1 : ((i : Int) + 1).toNat = i + 1 := by omega
  have t2 : n - (i + 1) = m := by omega
  have HE : l.eraseIdx i = l.take i ++ l.drop (i + 1) := List.eraseIdx_eq_take_drop_succ l i
  rw [hm1, HE, List.flatMap_append]
  clear HE
  have hma : n ≤ i + m + 1 := by omega
  have hmb : i + m + 1 ≤ n := by omega
  clear hm hm1
  have OW := Lib.hid own
  have OT := Lib.hid ownT
  have SBH := Lib.hid hsb
  clear hsl own ownT hsb
  have z1 : ((i + 1 : Nat) : Int) = (i : Int) + 1 := by omega
  go_enter Try.func37, Try.ntmps37
  go_wp2_with fail
  have OTd : w.drew.ownsRow base 32 4 (.slice (some ⟨g, 0, none⟩) i c) i ((l.take i).flatMap Ln.enc) := OT.out
  have SBd : Sl 4 Ln.enc w.drew (some ad) (l.drop (i + 1)) := SBH.out.below (Below.refl _ _).drew
  refine wp_region_rg (by kernel_rfl) (by kernel_rfl) [20, 21, 22, 23, 24, 25, 26, 0] (DelRPhi w.drew g n c i m base ad l) ?h0 ⟨?q0, ?q1, ?q2, ?q3, ?q4, ?q5, ?q6, ?q7, trivial⟩ ?hend
  case h0 => exact ⟨_, _, _, _, _, _, _, _, _, rfl, ⟨fun _ => rfl, (fun h => by cases h), (fun h => by cases h), (fun h => by cases h), (fun h => by cases h), (fun h => by cases h), (fun h => by cases h), (fun h => by cases h), (fun h => by cases h), (fun _ => rfl)⟩, rfl⟩
  case q0 =>
    rintro L vs w' K ⟨u20, u21, u22, u23, u24, u25, u26, u0, wz, rfl, φ, rfl⟩ hL hpre hcl hK G hG
    simp [Region.binds, closedFrom] at hpre hcl
    have L7 : L 7 = false := by
      cases h : L 7 with
      | false => rfl
      | true => simp [h, hL] at hcl
    have e0 := φ.z0 L7
    subst e0
    have hk := hK [(.slice (some ⟨g, 0, none⟩) n c), u21, u22, u23, u24, u25, u26, (.slice (some ⟨g, 0, none⟩) n c)] wz ⟨_, _, _, _, _, _, _, _, wz, rfl,
      { b := fun h => φ.b (by simpa using h),
        s0 := fun _ => rfl,
        s1 := fun h0 => φ.s1 (by simpa using h0),
        s2 := fun h0 => φ.s2 (by simpa using h0),
        s3 := fun h0 => φ.s3 (by simpa using h0),
        s4 := fun h0 => φ.s4 (by simpa using h0),
        s5 := fun h0 => φ.s5 (by simpa using h0),
        s6 := fun h0 => φ.s6 (by simpa using h0),
        s7 := fun h0 => φ.s7 (by simpa using h0),
        z0 := fun h0 => φ.z0 (by simpa using h0) }, rfl⟩
    refine hG ?_
    clear hK φ hG
    revert hk
    go_simp
    first | done | exact fun h => h
  case q1 =>
    rintro L vs w' K ⟨u20, u21, u22, u23, u24, u25, u26, u0, wz, rfl, φ, rfl⟩ hL hpre hcl hK G hG
    simp [Region.binds, closedFrom] at hpre hcl
    have hk := hK [u20, (.int .i64 (i : Int)), u22, u23, u24, u25, u26, u0] wz ⟨_, _, _, _, _, _, _, _, wz, rfl,
      { b := fun h => φ.b (by simpa using h),
        s0 := fun h0 => φ.s0 (by simpa using h0),
        s1 := fun _ => rfl,
        s2 := fun h0 => φ.s2 (by simpa using h0),
        s3 := fun h0 => φ.s3 (by simpa using h0),
        s4 := fun h0 => φ.s4 (by simpa using h0),
        s5 := fun h0 => φ.s5 (by simpa using h0),
        s6 := fun h0 => φ.s6 (by simpa using h0),
        s7 := fun h0 => φ.s7 (by simpa using h0),
        z0 := fun h0 => φ.z0 (by simpa using h0) }, rfl⟩
    refine hG ?_
    clear hK φ hG
    revert hk
    go_simp
    first | done | exact fun h => h
  case q2 =>
    rintro L vs w' K ⟨u20, u21, u22, u23, u24, u25, u26, u0, wz, rfl, φ, rfl⟩ hL hpre hcl hK G hG
    simp [Region.binds, closedFrom] at hpre hcl
    have e0 := φ.s0 (by simp [hpre])
    subst e0
    have e1 := φ.s1 (by simp [hpre])
    subst e1
    have hk := hK [(.slice (some ⟨g, 0, none⟩) n c), (.int .i64 (i : Int)), (.slice (some ⟨g, 0, none⟩) i c), u23, u24, u25, u26, u0] wz ⟨_, _, _, _, _, _, _, _, wz, rfl,
      { b := fun h => φ.b (by simpa using h),
        s0 := fun h0 => φ.s0 (by simpa using h0),
        s1 := fun h0 => φ.s1 (by simpa using h0),
        s2 := fun _ => rfl,
        s3 := fun h0 => φ.s3 (by simpa using h0),
        s4 := fun h0 => φ.s4 (by simpa using h0),
        s5 := fun h0 => φ.s5 (by simpa using h0),
        s6 := fun h0 => φ.s6 (by simpa using h0),
        s7 := fun h0 => φ.s7 (by simpa using h0),
        z0 := fun h0 => φ.z0 (by simpa using h0) }, rfl⟩
    refine hG ?_
    clear hK φ hG
    revert hk
    go_simp
    first | done | exact fun h => h
  case q3 =>
    rintro L vs w' K ⟨u20, u21, u22, u23, u24, u25, u26, u0, wz, rfl, φ, rfl⟩ hL hpre hcl hK G hG
    simp [Region.binds, closedFrom] at hpre hcl
    have L7 : L 7 = false := by
      cases h : L 7 with
      | false => rfl
      | true => simp [h, hL] at hcl
    have e0 := φ.z0 L7
    subst e0
    have hk := hK [u20, u21, u22, (.slice (some ⟨g, 0, none⟩) n c), u24, u25, u26, (.slice (some ⟨g, 0, none⟩) n c)] wz ⟨_, _, _, _, _, _, _, _, wz, rfl,
      { b := fun h => φ.b (by simpa using h),
        s0 := fun h0 => φ.s0 (by simpa using h0),
        s1 := fun h0 => φ.s1 (by simpa using h0),
        s2 := fun h0 => φ.s2 (by simpa using h0),
        s3 := fun _ => rfl,
        s4 := fun h0 => φ.s4 (by simpa using h0),
        s5 := fun h0 => φ.s5 (by simpa using h0),
        s6 := fun h0 => φ.s6 (by simpa using h0),
        s7 := fun h0 => φ.s7 (by simpa using h0),
        z0 := fun h0 => φ.z0 (by simpa using h0) }, rfl⟩
    refine hG ?_
    clear hK φ hG
    revert hk
    go_simp
    first | done | exact fun h => h
  case q4 =>
    rintro L vs w' K ⟨u20, u21, u22, u23, u24, u25, u26, u0, wz, rfl, φ, rfl⟩ hL hpre hcl hK G hG
    simp [Region.binds, closedFrom] at hpre hcl
    have hk := hK [u20, u21, u22, u23, (.int .i64 ((i : Int) + 1)), u25, u26, u0] wz ⟨_, _, _, _, _, _, _, _, wz, rfl,
      { b := fun h => φ.b (by simpa using h),
        s0 := fun h0 => φ.s0 (by simpa using h0),
        s1 := fun h0 => φ.s1 (by simpa using h0),
        s2 := fun h0 => φ.s2 (by simpa using h0),
        s3 := fun h0 => φ.s3 (by simpa using h0),
        s4 := fun _ => rfl,
        s5 := fun h0 => φ.s5 (by simpa using h0),
        s6 := fun h0 => φ.s6 (by simpa using h0),
        s7 := fun h0 => φ.s7 (by simpa using h0),
        z0 := fun h0 => φ.z0 (by simpa using h0) }, rfl⟩
    refine hG ?_
    clear hK φ hG
    revert hk
    go_simp
    first | done | exact fun h => h
  case q5 =>
    rintro L vs w' K ⟨u20, u21, u22, u23, u24, u25, u26, u0, wz, rfl, φ, rfl⟩ hL hpre hcl hK G hG
    simp [Region.binds, closedFrom] at hpre hcl
    have e3 := φ.s3 (by simp [hpre])
    subst e3
    have e4 := φ.s4 (by simp [hpre])
    subst e4
    have hk := hK [u20, u21, u22, (.slice (some ⟨g, 0, none⟩) n c), (.int .i64 ((i : Int) + 1)), (.slice (some ad) m (c - (i + 1))), u26, u0] wz ⟨_, _, _, _, _, _, _, _, wz, rfl,
      { b := fun h => φ.b (by simpa using h),
        s0 := fun h0 => φ.s0 (by simpa using h0),
        s1 := fun h0 => φ.s1 (by simpa using h0),
        s2 := fun h0 => φ.s2 (by simpa using h0),
        s3 := fun h0 => φ.s3 (by simpa using h0),
        s4 := fun h0 => φ.s4 (by simpa using h0),
        s5 := fun _ => rfl,
        s6 := fun h0 => φ.s6 (by simpa using h0),
        s7 := fun h0 => φ.s7 (by simpa using h0),
        z0 := fun h0 => φ.z0 (by simpa using h0) }, rfl⟩
    refine hG ?_
    clear hK φ hG
    revert hk
    go_simp
    first | done | exact fun h => h
  case q6 =>
    rintro L vs w' K ⟨u20, u21, u22, u23, u24, u25, u26, u0, wz, rfl, φ, rfl⟩ hL hpre hcl hK G hG
    simp [Region.binds, closedFrom] at hpre hcl
    have e2 := φ.s2 (by simp [hpre])
    subst e2
    have e5 := φ.s5 (by simp [hpre])
    subst e5
    have e9 := φ.b hL
    subst e9
    refine hG (step_append_fits w.drew rfl (.tmp 22) (.tmp 25) 40 rfl base 32 i0 4 Try.underlying40 hi0 hz1 g i c _ (by simp [Act.eval, Act.puts, Act.put]) OTd ad m (c - (i + 1)) ((l.drop (i + 1)).flatMap Ln.enc) (by simp [Act.eval, Act.puts, Act.put]) (by rw [flat_length Ln.enc_len, hlm]) (fun j u hj => SBd.flat Ln.enc_len (by decide) rfl j u hj) (fun u hu => by obtain ⟨y, _, hy⟩ := List.mem_flatMap.1 hu; exact Ln.enc_one y u hy) (by omega) ?_)
    intro w9 ownN hgrow
    have hk := hK [u20, u21, (.slice (some ⟨g, 0, none⟩) i c), u23, u24, (.slice (some ad) m (c - (i + 1))), (.slice (some ⟨g, 0, none⟩) (i + m) c), u0] w9 ⟨_, _, _, _, _, _, _, _, w9, rfl,
      { b := fun h => by simp at h,
        s0 := fun h0 => φ.s0 (by simpa using h0),
        s1 := fun h0 => φ.s1 (by simpa using h0),
        s2 := fun h0 => φ.s2 (by simpa using h0),
        s3 := fun h0 => φ.s3 (by simpa using h0),
        s4 := fun h0 => φ.s4 (by simpa using h0),
        s5 := fun h0 => φ.s5 (by simpa using h0),
        s6 := fun _ => ⟨rfl, ownN, hgrow⟩,
        s7 := fun h0 => φ.s7 (by simpa using h0),
        z0 := fun h0 => φ.z0 (by simpa using h0) }, rfl⟩
    clear hK φ hG
    revert hk
    go_simp
    first | done | exact fun h => h
  case q7 =>
    rintro L vs w' K ⟨u20, u21, u22, u23, u24, u25, u26, u0, wz, rfl, φ, rfl⟩ hL hpre hcl hK G hG
    simp [Region.binds, closedFrom] at hpre hcl
    obtain ⟨e6, o6, g6⟩ := φ.s6 (by simp [hpre])
    subst e6
    have hk := hK [u20, u21, u22, u23, u24, u25, (.slice (some ⟨g, 0, none⟩) (i + m) c), (.slice (some ⟨g, 0, none⟩) (i + m) c)] wz ⟨_, _, _, _, _, _, _, _, wz, rfl,
      { b := fun h => φ.b (by simpa using h),
        s0 := fun h0 => φ.s0 (by simpa using h0),
        s1 := fun h0 => φ.s1 (by simpa using h0),
        s2 := fun h0 => φ.s2 (by simpa using h0),
        s3 := fun h0 => φ.s3 (by simpa using h0),
        s4 := fun h0 => φ.s4 (by simpa using h0),
        s5 := fun h0 => φ.s5 (by simpa using h0),
        s6 := fun _ => ⟨rfl, o6, g6⟩,
        s7 := fun _ => rfl,
        z0 := fun h => by simp at h }, rfl⟩
    refine hG ?_
    clear hK φ hG
    revert hk
    go_simp
    first | done | exact fun h => h
  case hend =>
    rintro vs w' ⟨u20, u21, u22, u23, u24, u25, u26, u0, wz, rfl, φ, rfl⟩ G hG
    obtain ⟨e6, o6, g6⟩ := φ.s6 rfl
    have e7 := φ.s7 rfl
    subst e6
    subst e7
    clear φ
    refine hG ?_
    clear hG
    have t3 : n - (i + m) = 1 := by omega
    have hl6 := o6.1
    have HCL := run_clear_k (P := Try.prog) wz 40 32 0 (.agg #[.int .i64 0, .int .i64 0, .int .u32 0, .int .i64 0]) 4 Try.underlying40 (fun _ => by kernel_rfl) rfl (by decide) (by intro v hv; simp [Value.cells] at hv; rcases hv with rfl | rfl | rfl | rfl <;> rfl) g ((i + m) * 4) 1 (c - (i + m))
      (fun j hj => own_there o6 _ (by omega)) (fun j hj => own_frozen o6 _)
    obtain ⟨ex, hex, oX⟩ := own_extend o6 1 (by omega)
    have oY := own_setCells (Builtin.zeroCells (Value.agg #[.int .i64 0, .int .i64 0, .int .u32 0, .int .i64 0]).cells 1).toList _ wz ((i + m) * 4) oX
    have oZ := own_take (n' := i + m) oY (by omega)
    rw [setAll_take _ _ _ _ (Nat.le_refl _), List.take_append_of_le_length (by omega), List.take_of_length_le (by omega)] at oZ
    have g7 := grown_setCells (Builtin.zeroCells (Value.agg #[.int .i64 0, .int .i64 0, .int .u32 0, .int .i64 0]).cells 1).toList wz ((i + m) * 4) g6
    have OZ := Lib.hid oZ
    have G7 := Lib.hid g7
    clear oX oY oZ g7 hex hl6 o6 g6
    go_simp
    go_wp2_with fail
    go_ret
    exact ⟨rfl, OZ.out, World.grownBy.trans (b := w.drew) ⟨rfl, rfl, rfl, Nat.le_refl _, fun _ _ _ => rfl⟩ G7.out⟩
end Go.Proofs.Ytdndanjabknjpaa
