/- Walks of commit's inner functions: Right, copied, below. -/
import Derived.Test.YtkkbpcnoamagcaaB
namespace Go.Proofs.Ytkkbpcnoamagcaa
open Go.RowKit Go.Lib

def rightB (h : List Hld) : Bool := decide (h.length ≤ 64) && ((h.all fun x => spanB x.span) && sortB h)

/-- What a gate that came in is: two slices that read. -/
structure GateIn (w : World) (A B : Option Addr) (h : List Hld) (t : List Tld) : Prop where
  held : Sl 3 Hld.enc w A h
  out : Sl 2 Tld.enc w B t
theorem GateIn.below {w w' : World} {A B : Option Addr} {h : List Hld} {t : List Tld} (g : GateIn w A B h t) (hb : Below w.heap.size w w') : GateIn w' A B h t := ⟨g.held.below hb, g.out.below hb⟩

theorem lit1_pred (w : World) : PredBelow Try.prog 25 #[] (fun x => .agg (Hld.enc x).toArray) (fun x => !spanB x.span) w := fun W x hb => by
  exact (lit1_any x W).mono fun e w' ⟨he, hb'⟩ => ⟨he, hb.trans (hb'.mono hb.size)⟩

set_option maxHeartbeats 1000000 in
theorem Right_any (A B : Option Addr) (c d n m : Nat) (h : List Hld) (t : List Tld) (w : World) (hg : GateIn w A B h t) (hn : h.length = n) :
    Calls Try.prog 14 #[.agg #[.slice A n c, .slice B m d]] w fun e w' => e = .returned (.bool (rightB h)) ∧ Below w.heap.size w w' := by
  have hbig := hg.held.big
  have hb0 : Below w.heap.size w (w.alloc (.cells #[.slice A n c, .slice B m d] 25)) := (Below.refl _ _).alloc (Nat.le_refl _) _
  have cC := containsFunc_any 25 #[] _ (enters_of Try.func25 (by kernel_rfl) rfl) A c n h _ (lit1_pred (w.alloc (.cells #[.slice A n c, .slice B m d] 25))) (hg.held.below hb0) hn
  rw [hn] at hbig
  by_cases h1 : n ≤ 64
  · have h1z : ¬ 64 < (n : Int) := by omega
    cases hany : h.any fun x => !spanB x.span with
    | true =>
      rw [hany] at cC
      have hr : rightB h = false := by
        have : (h.all fun x => spanB x.span) = false := by
          rw [List.all_eq_not_any_not, hany]; rfl
        simp [rightB, this]
      rw [hr]
      clear hr hany hg
      go_enter Try.func14, Try.ntmps14
      go_wp2_with (go_at_call 24; refine cC.mono ?_; rintro e w1 ⟨rfl, hb1⟩)
      go_ret
      exact ⟨rfl, hb0.trans (hb1.mono hb0.size)⟩
    | false =>
      rw [hany] at cC
      have hall : (h.all fun x => spanB x.span) = true := by
        rw [List.all_eq_not_any_not, hany]; rfl
      have hr : rightB h = sortB h := by simp [rightB, hall, hn, h1]
      have cS := fun w1 (hb : Below w.heap.size w w1) => isSorted_any A c n h w1 (hg.held.below hb) hn (List.all_eq_true.1 hall)
      rw [hr]
      generalize sortB h = r at *
      clear hr hany hg hall
      go_enter Try.func14, Try.ntmps14
      go_wp2_with fail
      refine cC.mono ?_
      rintro e w1 ⟨rfl, hb1⟩
      have hb2 := hb0.trans (hb1.mono hb0.size)
      have e0 : w1.cell? ⟨w.heap.size, 0, none⟩ = some (.slice A n c) := (hb1.cell (p := ⟨w.heap.size, 0, none⟩) (by simp)).trans (by simp [World.cell?_alloc_new])
      go_wp2_with (go_at_call 26; refine (cS _ hb2).mono ?_; rintro e w2 ⟨rfl, hb3⟩)
      go_ret
      exact ⟨rfl, hb2.trans (hb3.mono hb2.size)⟩
  · have h1z : 64 < (n : Int) := by omega
    have hr : rightB h = false := by simp [rightB, hn, h1]
    rw [hr]
    clear hr hg cC
    go_enter Try.func14, Try.ntmps14
    go_wp2
    go_ret
    exact ⟨rfl, hb0⟩

set_option maxHeartbeats 1000000 in
theorem copied_any (A B : Option Addr) (c d n m : Nat) (h : List Hld) (t : List Tld) (w : World) (hg : GateIn w A B h t) (hn : h.length = n) (hm : t.length = m) (hn1 : n ≤ 1000000) (hm1 : m ≤ 1000000) :
    Calls Try.prog 19 #[.agg #[.slice A n c, .slice B m d]] w fun e w' => ∃ v1 v2, e = .returned (.agg #[v1, v2]) ∧ w'.ownsRow w.heap.size 51 3 v1 n (h.flatMap Hld.enc) ∧ w'.ownsRow w.heap.size 28 2 v2 m (t.flatMap Tld.enc) ∧ Below w.heap.size w w' := by
  have cH := fun w1 (hb : Below w.heap.size w w1) => cloneH_any A c n h w1 (hg.held.below hb) hn hn1
  have cT := fun w1 (hb : Below w.heap.size w w1) => cloneT_any B d m t w1 (hg.out.below hb) hm hm1
  clear hg
  go_enter Try.func19, Try.ntmps19
  go_wp2_with fail
  have e0 : ((w.alloc (.cells #[.slice A n c, .slice B m d] 25)).alloc (.cells #[.slice none 0 0, .slice none 0 0] 25)).cell? ⟨w.heap.size, 0, none⟩ = some (.slice A n c) := by go_simp
  have e1 : ((w.alloc (.cells #[.slice A n c, .slice B m d] 25)).alloc (.cells #[.slice none 0 0, .slice none 0 0] 25)).cell? ⟨w.heap.size, 1, none⟩ = some (.slice B m d) := by go_simp
  have r0 : ((w.alloc (.cells #[.slice A n c, .slice B m d] 25)).alloc (.cells #[.slice none 0 0, .slice none 0 0] 25)).cell? ⟨w.heap.size + 1, 0, none⟩ = some (.slice none 0 0) := by go_simp
  have r1 : ((w.alloc (.cells #[.slice A n c, .slice B m d] 25)).alloc (.cells #[.slice none 0 0, .slice none 0 0] 25)).cell? ⟨w.heap.size + 1, 1, none⟩ = some (.slice none 0 0) := by go_simp
  have f0 : ((w.alloc (.cells #[.slice A n c, .slice B m d] 25)).alloc (.cells #[.slice none 0 0, .slice none 0 0] 25)).frozen? ⟨w.heap.size + 1, 0, none⟩ = false := by go_simp
  have f1 : ((w.alloc (.cells #[.slice A n c, .slice B m d] 25)).alloc (.cells #[.slice none 0 0, .slice none 0 0] 25)).frozen? ⟨w.heap.size + 1, 1, none⟩ = false := by go_simp
  have hz : Below w.heap.size w ((w.alloc (.cells #[.slice A n c, .slice B m d] 25)).alloc (.cells #[.slice none 0 0, .slice none 0 0] 25)) := ((Below.refl _ _).alloc (Nat.le_refl _) _).alloc (by simp) _
  have hzs : w.heap.size + 1 < ((w.alloc (.cells #[.slice A n c, .slice B m d] 25)).alloc (.cells #[.slice none 0 0, .slice none 0 0] 25)).heap.size := by simp
  generalize (w.alloc (.cells #[.slice A n c, .slice B m d] 25)).alloc (.cells #[.slice none 0 0, .slice none 0 0] 25) = wz at *
  have hzd := hz.drew
  have e0d : wz.drew.cell? ⟨w.heap.size, 0, none⟩ = _ := e0
  have e1d : wz.drew.cell? ⟨w.heap.size, 1, none⟩ = _ := e1
  have r0d : wz.drew.cell? ⟨w.heap.size + 1, 0, none⟩ = _ := r0
  have r1d : wz.drew.cell? ⟨w.heap.size + 1, 1, none⟩ = _ := r1
  have f0d : wz.drew.frozen? ⟨w.heap.size + 1, 0, none⟩ = _ := f0
  have f1d : wz.drew.frozen? ⟨w.heap.size + 1, 1, none⟩ = _ := f1
  have hzsd : w.heap.size + 1 < wz.drew.heap.size := hzs
  have hl0 : w.heap.size < wz.drew.heap.size := by omega
  have hl1 : w.heap.size + 1 < wz.drew.heap.size := hzsd
  clear hz e0 e1 r0 r1 f0 f1 hzs hzsd
  go_region_held3 (fun w' => w'.cell? ⟨w.heap.size, 0, none⟩ = some (.slice A n c) ∧ w'.cell? ⟨w.heap.size, 1, none⟩ = some (.slice B m d))
    (first
      | exact ⟨e0d, e1d⟩
      | exact ⟨(hb2.cell (p := ⟨w.heap.size, 0, none⟩) (Nat.lt_of_lt_of_le hl0 hb1.size)).trans ((hb1.cell (p := ⟨w.heap.size, 0, none⟩) hl0).trans e0d), (hb2.cell (p := ⟨w.heap.size, 1, none⟩) (Nat.lt_of_lt_of_le hl0 hb1.size)).trans ((hb1.cell (p := ⟨w.heap.size, 1, none⟩) hl0).trans e1d)⟩
      | exact ⟨(hb1.cell (p := ⟨w.heap.size, 0, none⟩) hl0).trans e0d, (hb1.cell (p := ⟨w.heap.size, 1, none⟩) hl0).trans e1d⟩
      | go_keep)
    (first
      | (go_at_call 29; refine (cH _ hzd).mono ?_; rintro e w1 ⟨v1, rfl, own1, hb1⟩; obtain ⟨A1, c1, rfl⟩ := own_shape own1)
      | (go_at_call 28; refine (cT _ (hzd.trans (hb1.mono hzd.size))).mono ?_; rintro e w2 ⟨v2, rfl, own2, hb2⟩; obtain ⟨A2, c2, rfl⟩ := own_shape own2; have r0' := (hb2.cell (p := ⟨w.heap.size + 1, 0, none⟩) (Nat.lt_of_lt_of_le hl1 hb1.size)).trans ((hb1.cell (p := ⟨w.heap.size + 1, 0, none⟩) hl1).trans r0d); have r1' := (hb2.cell (p := ⟨w.heap.size + 1, 1, none⟩) (Nat.lt_of_lt_of_le hl1 hb1.size)).trans ((hb1.cell (p := ⟨w.heap.size + 1, 1, none⟩) hl1).trans r1d); have f0' := (hb2.frozen (p := ⟨w.heap.size + 1, 0, none⟩) (Nat.lt_of_lt_of_le hl1 hb1.size)).trans ((hb1.frozen (p := ⟨w.heap.size + 1, 0, none⟩) hl1).trans f0d); have f1' := (hb2.frozen (p := ⟨w.heap.size + 1, 1, none⟩) (Nat.lt_of_lt_of_le hl1 hb1.size)).trans ((hb1.frozen (p := ⟨w.heap.size + 1, 1, none⟩) hl1).trans f1d)))
  go_wp2
  have own2w := own_weaken' own2 (Nat.le_trans hzd.size hb1.size)
  have own1w := own_below own1 hb2
  have b2 := (hzd.trans (hb1.mono hzd.size)).trans (hb2.mono (Nat.le_trans hzd.size hb1.size))
  exact bodyPost_ret (v := .agg #[.slice A1 n c1, .slice A2 m c2]) (by simp [results, Try.results19, go_sem, r0', r1']) rfl
    ⟨_, _, rfl, own_weaken' (ownsRow_setCell_below (ownsRow_setCell_below own1w (by exact hl1) _) (by exact hl1) _) hzd.size,
      own_weaken' (ownsRow_setCell_below (ownsRow_setCell_below own2 (by exact Nat.lt_of_lt_of_le hl1 hb1.size) _) (by exact Nat.lt_of_lt_of_le hl1 hb1.size) _) (Nat.le_trans hzd.size hb1.size),
      (b2.setCell (by simp) _).setCell (by simp) _⟩
end Go.Proofs.Ytkkbpcnoamagcaa
