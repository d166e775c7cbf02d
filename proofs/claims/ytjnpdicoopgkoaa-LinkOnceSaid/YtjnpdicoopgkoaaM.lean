/- What LinkOnce's walk uses: the state of its loop, its regions. -/
import Derived.Test.YtjnpdicoopgkoaaQ
namespace Go.Proofs.Ytjnpdicoopgkoaa
open Go.RowKit Go.Lib
set_option linter.unusedVariables false

def tupAt : Value → Nat → Value | .tuple xs, k => xs.getD k undef | _, _ => undef
def aggAt : Value → Nat → Value | .agg xs, k => xs.getD k undef | _, _ => undef
def aggCells : Value → Array Value | .agg xs => xs | _ => #[]
/-- A slice's block is not the variable's. -/
def SOff {α : Type} (l : List α) (v : Value) (X : Nat) : Prop := l ≠ [] → ∀ A n c, v = .slice A n c → ∀ a, A = some a → a.block ≠ X
section
variable {α : Type} [Inhabited α] {k : Nat} {enc : α → List Value} {w : World} {A : Option Addr} {n c X Y : Nat} {l : List α} {a b d p q r : Value} {T : TypeId}
theorem SOff.fresh {α : Type} {l : List α} {A : Option Addr} {n c X m : Nat} (h : ∀ a, A = some a → m ≤ a.block) (hX : X < m) : SOff l (.slice A n c) X := by
  intro _ A' n' c' e a ha
  injection e with e1
  subst e1
  have := h a ha
  omega
theorem SOff.of_sl (h : Sl k enc w A l) (hk : ∀ x, (enc x).length = k) (h0 : 0 < k) : SOff l (.slice A n c) w.heap.size := by
  intro hne A' n' c' e a ha
  injection e with e1
  subst e1
  have := h.lt hk h0 hne a ha
  omega
theorem SOff.set2 (h : SOff l (.slice A n c) X) (hs : Sl k enc w A l) : Sl k enc ((w.setCell ⟨X, 0, none⟩ p).setCell ⟨X, 1, none⟩ q) A l :=
  (hs.setFar (q := ⟨X, 0, none⟩) (fun hne a e => h hne _ _ _ rfl a e) p).setFar (q := ⟨X, 1, none⟩) (fun hne a e => h hne _ _ _ rfl a e) q
theorem SOff.set3 (h : SOff l (.slice A n c) X) (hs : Sl k enc w A l) : Sl k enc (((w.setCell ⟨X, 0, none⟩ p).setCell ⟨X, 1, none⟩ q).setCell ⟨X, 2, none⟩ r) A l :=
  (SOff.set2 h hs).setFar (q := ⟨X, 2, none⟩) (fun hne a e => h hne _ _ _ rfl a e) r
theorem cells2 {w : World} {X : Nat} {a b : Value} {T : TypeId} (h : w.heap[X]? = some (.cells #[a, b] T (0, 0))) :
    w.cell? ⟨X, 0, none⟩ = some a ∧ w.cell? ⟨X, 1, none⟩ = some b ∧ w.frozen? ⟨X, 0, none⟩ = false ∧ w.frozen? ⟨X, 1, none⟩ = false :=
  ⟨cell_of_row _ X 0 _ T (0, 0) h, cell_of_row _ X 1 _ T (0, 0) h, by simp [World.frozen?, h], by simp [World.frozen?, h]⟩
theorem block_set2 (h : w.heap[X]? = some (.cells #[a, b] T (0, 0))) : ((w.setCell ⟨X, 0, none⟩ p).setCell ⟨X, 1, none⟩ q).heap[X]? = some (.cells #[p, q] T (0, 0)) := by
  simp [World.setCell, Array.getElem?_modify, h]
theorem block_set3 (h : w.heap[X]? = some (.cells #[a, b, d] T (0, 0))) : (((w.setCell ⟨X, 0, none⟩ p).setCell ⟨X, 1, none⟩ q).setCell ⟨X, 2, none⟩ r).heap[X]? = some (.cells #[p, q, r] T (0, 0)) := by
  simp [World.setCell, Array.getElem?_modify, h]
theorem block_far2 (h : X ≠ Y) : ((w.setCell ⟨X, 0, none⟩ p).setCell ⟨X, 1, none⟩ q).heap[Y]? = w.heap[Y]? := by
  simp [World.setCell, Array.getElem?_modify, h]
theorem block_far3 (h : X ≠ Y) : (((w.setCell ⟨X, 0, none⟩ p).setCell ⟨X, 1, none⟩ q).setCell ⟨X, 2, none⟩ r).heap[Y]? = w.heap[Y]? := by
  simp [World.setCell, Array.getElem?_modify, h]
end

def encI (x : Int) : List Value := [.int .i64 x]
theorem encI_len (x : Int) : (encI x).length = 1 := rfl
def encH (x : Int) : List Value := [.int .u16 x]
theorem encH_len (x : Int) : (encH x).length = 1 := rfl
theorem info3 : (Try.prog.info? 3).map (fun i => (i.zero, i.size, i.bytes)) = some (some (.int .i64 0), 1, 8) := by kernel_rfl
/-- A slice's block has a property. -/
def OffP {α : Type} (P : Nat → Prop) (l : List α) (A : Option Addr) : Prop := l ≠ [] → ∀ a, A = some a → P a.block
theorem OffP.imp {α : Type} {P Q : Nat → Prop} {l : List α} {A : Option Addr} (h : OffP P l A) (hpq : ∀ b, P b → Q b) : OffP Q l A := fun hne a e => hpq _ (h hne a e)
def FarP (SX GX : Nat) (T K : Value) (b : Nat) : Prop := b ≠ SX ∧ b ≠ GX ∧ T.ownBlock ≠ some b ∧ K.ownBlock ≠ some b
structure LW (w : World) (SX GX base : Nat) (wl : World) (s : Snd) (g : Gtr) (sent : List Pce) (acks : List Int) (sA : Option Addr) (sn sc : Nat) (gA : Option Addr) (gn gc : Nat) (gB : Option Addr) (gm gd : Nat) (TA : Option Addr) (tn tc : Nat) (KA : Option Addr) (kn kc : Nat) : Prop where
  s0 : wl.cell? ⟨SX, 0, none⟩ = some (.int .i64 s.next)
  s1 : wl.cell? ⟨SX, 1, none⟩ = some (.slice sA sn sc)
  fs0 : wl.frozen? ⟨SX, 0, none⟩ = false
  fs1 : wl.frozen? ⟨SX, 1, none⟩ = false
  g0 : wl.cell? ⟨GX, 0, none⟩ = some (.int .i64 g.next)
  g1 : wl.cell? ⟨GX, 1, none⟩ = some (.slice gA gn gc)
  g2 : wl.cell? ⟨GX, 2, none⟩ = some (.slice gB gm gd)
  fg0 : wl.frozen? ⟨GX, 0, none⟩ = false
  fg1 : wl.frozen? ⟨GX, 1, none⟩ = false
  fg2 : wl.frozen? ⟨GX, 2, none⟩ = false
  ltS : SX < wl.heap.size
  ltG : GX < wl.heap.size
  bS : SX < base
  bG : GX < base
  nSG : SX ≠ GX
  wS : w.heap.size ≤ SX
  wG : w.heap.size ≤ GX
  sz : base ≤ wl.heap.size
  ss : Sl 2 Pce.enc wl sA s.out
  esn : s.out.length = sn
  gi : GtrIn wl gA gB g
  egn : g.early.length = gn
  egm : g.came.length = gm
  ownT : wl.ownsRow base 34 2 (.slice TA tn tc) tn (sent.flatMap Pce.enc)
  etn : sent.length = tn
  ownK : wl.ownsRow base 3 1 (.slice KA kn kc) kn (acks.flatMap encI)
  ekn : acks.length = kn
  os : OffP (FarP SX GX (.slice TA tn tc) (.slice KA kn kc)) s.out sA
  oe : OffP (FarP SX GX (.slice TA tn tc) (.slice KA kn kc)) g.early gA
  oc : OffP (FarP SX GX (.slice TA tn tc) (.slice KA kn kc)) g.came gB
  b : Below w.heap.size w wl
section
variable {w wl wl' : World} {SX GX base sn sc gn gc gm gd tn tc kn kc : Nat} {s : Snd} {g : Gtr} {sent : List Pce} {acks : List Int} {sA gA gB TA KA : Option Addr}
theorem LW.below (h : LW w SX GX base wl s g sent acks sA sn sc gA gn gc gB gm gd TA tn tc KA kn kc) (hb : Below wl.heap.size wl wl') : LW w SX GX base wl' s g sent acks sA sn sc gA gn gc gB gm gd TA tn tc KA kn kc := by
  obtain ⟨s0, s1, fs0, fs1, g0, g1, g2, fg0, fg1, fg2, ltS, ltG, bS, bG, nSG, wS, wG, sz, ss, hsn, gi, hgn, hgm, ownT, htn, ownK, hkn, os, oe, oc, b⟩ := h
  exact ⟨(hb.cell (p := ⟨SX, 0, none⟩) ltS).trans s0, (hb.cell (p := ⟨SX, 1, none⟩) ltS).trans s1, (hb.frozen (p := ⟨SX, 0, none⟩) ltS).trans fs0, (hb.frozen (p := ⟨SX, 1, none⟩) ltS).trans fs1,
    (hb.cell (p := ⟨GX, 0, none⟩) ltG).trans g0, (hb.cell (p := ⟨GX, 1, none⟩) ltG).trans g1, (hb.cell (p := ⟨GX, 2, none⟩) ltG).trans g2, (hb.frozen (p := ⟨GX, 0, none⟩) ltG).trans fg0, (hb.frozen (p := ⟨GX, 1, none⟩) ltG).trans fg1, (hb.frozen (p := ⟨GX, 2, none⟩) ltG).trans fg2,
    Nat.lt_of_lt_of_le ltS hb.size, Nat.lt_of_lt_of_le ltG hb.size, bS, bG, nSG, wS, wG, Nat.le_trans sz hb.size, ss.below hb, hsn, gi.below hb, hgn, hgm, own_below ownT hb, htn, own_below ownK hb, hkn, os, oe, oc, b.trans (hb.mono b.size)⟩
theorem LW.far (h : LW w SX GX base wl s g sent acks sA sn sc gA gn gc gB gm gd TA tn tc KA kn kc) {b : Nat} (hb : wl.heap.size ≤ b) : FarP SX GX (.slice TA tn tc) (.slice KA kn kc) b :=
  ⟨by have := h.ltS; omega, by have := h.ltG; omega, fun e => by have := (h.ownT.lt _ e).2; omega, fun e => by have := (h.ownK.lt _ e).2; omega⟩
theorem far_old {w0 : World} (h : LW w SX GX base w0 s g sent acks sA sn sc gA gn gc gB gm gd TA tn tc KA kn kc) {α : Type} {l : List α} {A : Option Addr} (hA : ∀ a, A = some a → w0.heap.size ≤ a.block) : OffP (FarP SX GX (.slice TA tn tc) (.slice KA kn kc)) l A :=
  fun _ a e => h.far (hA a e)
/-- The sender's variable is set. -/
theorem LW.setS (h : LW w SX GX base wl s g sent acks sA sn sc gA gn gc gB gm gd TA tn tc KA kn kc) {s' : Snd} {A' : Option Addr} {n' c' : Nat} (hs : Sl 2 Pce.enc wl A' s'.out) (hn : s'.out.length = n') (ho : OffP (FarP SX GX (.slice TA tn tc) (.slice KA kn kc)) s'.out A') :
    LW w SX GX base ((wl.setCell ⟨SX, 0, none⟩ (.int .i64 s'.next)).setCell ⟨SX, 1, none⟩ (.slice A' n' c')) s' g sent acks A' n' c' gA gn gc gB gm gd TA tn tc KA kn kc := by
  obtain ⟨s0, s1, fs0, fs1, g0, g1, g2, fg0, fg1, fg2, ltS, ltG, bS, bG, nSG, wS, wG, sz, ss, hsn, gi, hgn, hgm, ownT, htn, ownK, hkn, os, oe, oc, b⟩ := h
  have neT : (Value.slice TA tn tc).ownBlock ≠ some SX := fun e => by have := (ownT.lt _ e).1; omega
  have neK : (Value.slice KA kn kc).ownBlock ≠ some SX := fun e => by have := (ownK.lt _ e).1; omega
  have st : ∀ {α : Type} [Inhabited α] {k : Nat} {enc : α → List Value} {A : Option Addr} {l : List α}, OffP (FarP SX GX (.slice TA tn tc) (.slice KA kn kc)) l A → Sl k enc wl A l → Sl k enc ((wl.setCell ⟨SX, 0, none⟩ (.int .i64 s'.next)).setCell ⟨SX, 1, none⟩ (.slice A' n' c')) A l := fun ho hs =>
    (hs.setFar (q := ⟨SX, 0, none⟩) (fun hne a e => (ho hne a e).1) _).setFar (q := ⟨SX, 1, none⟩) (fun hne a e => (ho hne a e).1) _
  exact ⟨by go_simp, by go_simp, by go_simp, by go_simp, by go_simp, by go_simp, by go_simp, by go_simp, by go_simp, by go_simp, by simpa using ltS, by simpa using ltG, bS, bG, nSG, wS, wG, by simpa using sz, st ho hs, hn, ⟨st oe gi.early, st oc gi.came⟩, hgn, hgm,
    ownsRow_setCell_other (a := ⟨SX, 1, none⟩) (ownsRow_setCell_other (a := ⟨SX, 0, none⟩) ownT neT _) neT _, htn, ownsRow_setCell_other (a := ⟨SX, 1, none⟩) (ownsRow_setCell_other (a := ⟨SX, 0, none⟩) ownK neK _) neK _, hkn, ho, oe, oc, (b.setCell (p := ⟨SX, 0, none⟩) wS _).setCell (p := ⟨SX, 1, none⟩) wS _⟩
/-- The getter's variable is set. -/
theorem LW.setG (h : LW w SX GX base wl s g sent acks sA sn sc gA gn gc gB gm gd TA tn tc KA kn kc) {g' : Gtr} {A' B' : Option Addr} {n' c' m' d' : Nat} (hg : GtrIn wl A' B' g') (hn : g'.early.length = n') (hm : g'.came.length = m') (h1 : OffP (FarP SX GX (.slice TA tn tc) (.slice KA kn kc)) g'.early A') (h2 : OffP (FarP SX GX (.slice TA tn tc) (.slice KA kn kc)) g'.came B') :
    LW w SX GX base (((wl.setCell ⟨GX, 0, none⟩ (.int .i64 g'.next)).setCell ⟨GX, 1, none⟩ (.slice A' n' c')).setCell ⟨GX, 2, none⟩ (.slice B' m' d')) s g' sent acks sA sn sc A' n' c' B' m' d' TA tn tc KA kn kc := by
  obtain ⟨s0, s1, fs0, fs1, g0, g1, g2, fg0, fg1, fg2, ltS, ltG, bS, bG, nSG, wS, wG, sz, ss, hsn, gi, hgn, hgm, ownT, htn, ownK, hkn, os, oe, oc, b⟩ := h
  have nGS := Ne.symm nSG
  have neT : (Value.slice TA tn tc).ownBlock ≠ some GX := fun e => by have := (ownT.lt _ e).1; omega
  have neK : (Value.slice KA kn kc).ownBlock ≠ some GX := fun e => by have := (ownK.lt _ e).1; omega
  have st : ∀ {α : Type} [Inhabited α] {k : Nat} {enc : α → List Value} {A : Option Addr} {l : List α}, OffP (FarP SX GX (.slice TA tn tc) (.slice KA kn kc)) l A → Sl k enc wl A l → Sl k enc (((wl.setCell ⟨GX, 0, none⟩ (.int .i64 g'.next)).setCell ⟨GX, 1, none⟩ (.slice A' n' c')).setCell ⟨GX, 2, none⟩ (.slice B' m' d')) A l := fun ho hs =>
    ((hs.setFar (q := ⟨GX, 0, none⟩) (fun hne a e => (ho hne a e).2.1) _).setFar (q := ⟨GX, 1, none⟩) (fun hne a e => (ho hne a e).2.1) _).setFar (q := ⟨GX, 2, none⟩) (fun hne a e => (ho hne a e).2.1) _
  exact ⟨by go_simp, by go_simp, by go_simp, by go_simp, by go_simp, by go_simp, by go_simp, by go_simp, by go_simp, by go_simp, by simpa using ltS, by simpa using ltG, bS, bG, nSG, wS, wG, by simpa using sz, st os ss, hsn, ⟨st h1 hg.early, st h2 hg.came⟩, hn, hm,
    ownsRow_setCell_other (a := ⟨GX, 2, none⟩) (ownsRow_setCell_other (a := ⟨GX, 1, none⟩) (ownsRow_setCell_other (a := ⟨GX, 0, none⟩) ownT neT _) neT _) neT _, htn, ownsRow_setCell_other (a := ⟨GX, 2, none⟩) (ownsRow_setCell_other (a := ⟨GX, 1, none⟩) (ownsRow_setCell_other (a := ⟨GX, 0, none⟩) ownK neK _) neK _) neK _, hkn, os, h1, h2, ((b.setCell (p := ⟨GX, 0, none⟩) wG _).setCell (p := ⟨GX, 1, none⟩) wG _).setCell (p := ⟨GX, 2, none⟩) wG _⟩
theorem LW.keep (h : LW w SX GX base wl s g sent acks sA sn sc gA gn gc gB gm gd TA tn tc KA kn kc) {v : Value} (hg : wl.grownBy wl' v.ownBlock) (hS : v.ownBlock ≠ some SX) (hG : v.ownBlock ≠ some GX) (hb : ∀ k, v.ownBlock = some k → base ≤ k) (hf : ∀ b, FarP SX GX (.slice TA tn tc) (.slice KA kn kc) b → v.ownBlock ≠ some b) :
    wl'.cell? ⟨SX, 0, none⟩ = some (.int .i64 s.next) ∧ wl'.cell? ⟨SX, 1, none⟩ = some (.slice sA sn sc) ∧ wl'.frozen? ⟨SX, 0, none⟩ = false ∧ wl'.frozen? ⟨SX, 1, none⟩ = false ∧
    wl'.cell? ⟨GX, 0, none⟩ = some (.int .i64 g.next) ∧ wl'.cell? ⟨GX, 1, none⟩ = some (.slice gA gn gc) ∧ wl'.cell? ⟨GX, 2, none⟩ = some (.slice gB gm gd) ∧ wl'.frozen? ⟨GX, 0, none⟩ = false ∧ wl'.frozen? ⟨GX, 1, none⟩ = false ∧ wl'.frozen? ⟨GX, 2, none⟩ = false ∧
    SX < wl'.heap.size ∧ GX < wl'.heap.size ∧ base ≤ wl'.heap.size ∧ Sl 2 Pce.enc wl' sA s.out ∧ GtrIn wl' gA gB g ∧ Below w.heap.size w wl' := by
  obtain ⟨s0, s1, fs0, fs1, g0, g1, g2, fg0, fg1, fg2, ltS, ltG, bS, bG, nSG, wS, wG, sz, ss, hsn, gi, hgn, hgm, ownT, htn, ownK, hkn, os, oe, oc, b⟩ := h
  have kS : wl'.heap[SX]? = wl.heap[SX]? := hg.block SX ltS (Ne.symm hS)
  have kG : wl'.heap[GX]? = wl.heap[GX]? := hg.block GX ltG (Ne.symm hG)
  have cS := fun j => World.cell?_of_block (w := wl) (w' := wl') (a := ⟨SX, j, none⟩) kS
  have zS := fun j => World.frozen?_of_block (w := wl) (w' := wl') (a := ⟨SX, j, none⟩) kS
  have cG := fun j => World.cell?_of_block (w := wl) (w' := wl') (a := ⟨GX, j, none⟩) kG
  have zG := fun j => World.frozen?_of_block (w := wl) (w' := wl') (a := ⟨GX, j, none⟩) kG
  have hs := hg.size
  exact ⟨(cS 0).trans s0, (cS 1).trans s1, (zS 0).trans fs0, (zS 1).trans fs1, (cG 0).trans g0, (cG 1).trans g1, (cG 2).trans g2, (zG 0).trans fg0, (zG 1).trans fg1, (zG 2).trans fg2, by omega, by omega, by omega,
    ss.grown hg (fun hne a e => hf _ (os hne a e)), ⟨gi.early.grown hg (fun hne a e => hf _ (oe hne a e)), gi.came.grown hg (fun hne a e => hf _ (oc hne a e))⟩, b.grown hg b.size (fun k hk => Nat.le_trans (by omega) (hb k hk))⟩
theorem LW.growT (h : LW w SX GX base wl s g sent acks sA sn sc gA gn gc gB gm gd TA tn tc KA kn kc) (hg : wl.grownBy wl' (Value.slice TA tn tc).ownBlock) {sent' : List Pce} {TA' : Option Addr} {tn' tc' : Nat} (own' : wl'.ownsRow base 34 2 (.slice TA' tn' tc') tn' (sent'.flatMap Pce.enc)) (htn' : sent'.length = tn')
    (hat : (Value.slice TA' tn' tc').ownBlock = (Value.slice TA tn tc).ownBlock ∨ ∀ k, (Value.slice TA' tn' tc').ownBlock = some k → wl.heap.size ≤ k) :
    LW w SX GX base wl' s g sent' acks sA sn sc gA gn gc gB gm gd TA' tn' tc' KA kn kc := by
  have hlt := h.ownT.lt
  have bS' := h.bS
  have bG' := h.bG
  obtain ⟨a1, a2, a3, a4, a5, a6, a7, a8, a9, a10, a11, a12, a13, a14, a15, a16⟩ := h.keep hg (fun e => by have := (hlt _ e).1; omega) (fun e => by have := (hlt _ e).1; omega) (fun k hk => (hlt k hk).1) (fun b hb => hb.2.2.1)
  have hss := h.ss
  have hgi := h.gi
  have hf : ∀ {α : Type} [Inhabited α] {k : Nat} {enc : α → List Value} {A : Option Addr} {l : List α}, (∀ x, (enc x).length = k) → 0 < k → Sl k enc wl A l → OffP (FarP SX GX (.slice TA tn tc) (.slice KA kn kc)) l A → OffP (FarP SX GX (.slice TA' tn' tc') (.slice KA kn kc)) l A := fun hk h0 hs ho hne a e => by
    obtain ⟨p1, p2, p3, p4⟩ := ho hne a e
    refine ⟨p1, p2, ?_, p4⟩
    rcases hat with e2 | e2
    · rw [e2]; exact p3
    · intro e3
      have := hs.lt hk h0 hne a e
      have := e2 _ e3
      omega
  exact ⟨a1, a2, a3, a4, a5, a6, a7, a8, a9, a10, a11, a12, h.bS, h.bG, h.nSG, h.wS, h.wG, a13, a14, h.esn, a15, h.egn, h.egm, own', htn', h.ownK.kept hg (own_two h.ownK h.ownT (by decide)), h.ekn, hf Pce.enc_len (by decide) hss h.os, hf Pce.enc_len (by decide) hgi.early h.oe, hf Wrd.enc_len (by decide) hgi.came h.oc, a16⟩
theorem LW.growK (h : LW w SX GX base wl s g sent acks sA sn sc gA gn gc gB gm gd TA tn tc KA kn kc) (hg : wl.grownBy wl' (Value.slice KA kn kc).ownBlock) {acks' : List Int} {KA' : Option Addr} {kn' kc' : Nat} (own' : wl'.ownsRow base 3 1 (.slice KA' kn' kc') kn' (acks'.flatMap encI)) (hkn' : acks'.length = kn')
    (hat : (Value.slice KA' kn' kc').ownBlock = (Value.slice KA kn kc).ownBlock ∨ ∀ k, (Value.slice KA' kn' kc').ownBlock = some k → wl.heap.size ≤ k) :
    LW w SX GX base wl' s g sent acks' sA sn sc gA gn gc gB gm gd TA tn tc KA' kn' kc' := by
  have hlt := h.ownK.lt
  have bS' := h.bS
  have bG' := h.bG
  obtain ⟨a1, a2, a3, a4, a5, a6, a7, a8, a9, a10, a11, a12, a13, a14, a15, a16⟩ := h.keep hg (fun e => by have := (hlt _ e).1; omega) (fun e => by have := (hlt _ e).1; omega) (fun k hk => (hlt k hk).1) (fun b hb => hb.2.2.2)
  have hss := h.ss
  have hgi := h.gi
  have hf : ∀ {α : Type} [Inhabited α] {k : Nat} {enc : α → List Value} {A : Option Addr} {l : List α}, (∀ x, (enc x).length = k) → 0 < k → Sl k enc wl A l → OffP (FarP SX GX (.slice TA tn tc) (.slice KA kn kc)) l A → OffP (FarP SX GX (.slice TA tn tc) (.slice KA' kn' kc')) l A := fun hk h0 hs ho hne a e => by
    obtain ⟨p1, p2, p3, p4⟩ := ho hne a e
    refine ⟨p1, p2, p3, ?_⟩
    rcases hat with e2 | e2
    · rw [e2]; exact p4
    · intro e3
      have := hs.lt hk h0 hne a e
      have := e2 _ e3
      omega
  exact ⟨a1, a2, a3, a4, a5, a6, a7, a8, a9, a10, a11, a12, h.bS, h.bG, h.nSG, h.wS, h.wG, a13, a14, h.esn, a15, h.egn, h.egm, h.ownT.kept hg (own_two h.ownT h.ownK (by decide)), h.etn, own', hkn', hf Pce.enc_len (by decide) hss h.os, hf Pce.enc_len (by decide) hgi.early h.oe, hf Wrd.enc_len (by decide) hgi.came h.oc, a16⟩
end
section
variable {wl : World} {SX GX tn tc kn kc tn' tc' kn' kc' : Nat} {TA KA TA' KA' : Option Addr}
theorem far_T {α : Type} [Inhabited α] {k : Nat} {enc : α → List Value} {A : Option Addr} {l : List α} (hk : ∀ x, (enc x).length = k) (h0 : 0 < k) (hs : Sl k enc wl A l) (ho : OffP (FarP SX GX (.slice TA tn tc) (.slice KA kn kc)) l A)
    (hat : (Value.slice TA' tn' tc').ownBlock = (Value.slice TA tn tc).ownBlock ∨ ∀ k, (Value.slice TA' tn' tc').ownBlock = some k → wl.heap.size ≤ k) : OffP (FarP SX GX (.slice TA' tn' tc') (.slice KA kn kc)) l A := fun hne a e => by
  obtain ⟨p1, p2, p3, p4⟩ := ho hne a e
  refine ⟨p1, p2, ?_, p4⟩
  rcases hat with e2 | e2
  · rw [e2]; exact p3
  · intro e3
    have := hs.lt hk h0 hne a e
    have := e2 _ e3
    omega
end
theorem LF.small {g : Gtr} {sent out : List Pce} {k : Nat} (h : LF g sent out k) {j : Nat} (hj : j < out.length) : out[j]!.num ≤ 9223372036854775807 := by
  have e : out[j]! ∈ out := by rw [getElem!_pos out j hj]; exact List.getElem_mem hj
  have e3 : ∀ x ∈ out, x ∈ sent := by
    have h6 := h.oE
    intro x hx
    rw [h6] at hx
    exact List.mem_of_mem_drop hx
  obtain ⟨q, hq, e8, _⟩ := numbered_mem h.num (e3 _ e)
  have := h.len
  omega
theorem send_fresh {w : World} {args : Array Value} {r : Snd × Pce × Int} {s : Snd} {p : Pce} {k : Int} (h : Calls Try.prog 6 args w (GaveS w r.1 r.2.1 r.2.2)) (hr : r = (s, p, k)) :
    Calls Try.prog 6 args w fun e w' => ∃ A n c, e = .returned (.tuple #[.agg #[.int .i64 s.next, .slice A n c], .agg #[.int .i64 p.num, .int .u32 p.val], .int .i64 k]) ∧ s.out.length = n ∧ Sl 2 Pce.enc w' A s.out ∧ (∀ a, A = some a → w.heap.size ≤ a.block) ∧ Below w.heap.size w w' := by
  subst hr
  exact h.mono fun e w' ⟨A, n', c, h1, h2, h3, h4, h5⟩ => ⟨A, n', c, h1, h2, h3, h5, h4⟩
theorem acked_fresh {w : World} {args : Array Value} {r : Snd × Int} {s : Snd} {k : Int} (h : Calls Try.prog 8 args w (GaveT w r.1 r.2)) (hr : r = (s, k)) :
    Calls Try.prog 8 args w fun e w' => ∃ A n c, e = .returned (.tuple #[.agg #[.int .i64 s.next, .slice A n c], .int .i64 k]) ∧ s.out.length = n ∧ Sl 2 Pce.enc w' A s.out ∧ (∀ a, A = some a → w.heap.size ≤ a.block) ∧ Below w.heap.size w w' := by
  subst hr
  exact h.mono fun e w' ⟨A, n', c, h1, h2, h3, h4, h5⟩ => ⟨A, n', c, h1, h2, h3, h5, h4⟩
theorem get_fresh {w : World} {args : Array Value} {r : Gtr × Int} {g : Gtr} {k : Int} (h : Calls Try.prog 7 args w (GaveG w r.1 r.1.next r.2)) (hr : r = (g, k)) :
    Calls Try.prog 7 args w fun e w' => ∃ A n c B m d, e = .returned (.tuple #[.agg #[.int .i64 g.next, .slice A n c, .slice B m d], .int .i64 g.next, .int .i64 k]) ∧ g.early.length = n ∧ g.came.length = m ∧ Sl 2 Pce.enc w' A g.early ∧ Sl 1 Wrd.enc w' B g.came ∧ (∀ a, A = some a → w.heap.size ≤ a.block) ∧ (∀ a, B = some a → w.heap.size ≤ a.block) ∧ Below w.heap.size w w' := by
  subst hr
  exact h.mono fun e w' ⟨A, n', c, B, m', d, h1, h2, h3, h4, h5, h6, h7, h8⟩ => ⟨A, n', c, B, m', d, h1, h2, h3, h4, h5, h7, h8, h6⟩
structure OnceS (w0 : World) (SX : Nat) (s : Snd) (sA : Option Addr) (sn sc wb wo wn wc tn : Nat) (v : Int) (s' : Snd) (p : Pce) (k : Int) (L : Nat → Bool) (u67 u68 u69 u70 u71 u72 u66 u73 u74 u75 u11 u12 u13 : Value) (wz : World) : Prop where
  b : Below w0.heap.size w0 wz
  s0 : L 0 = true → u67 = .agg #[.int .i64 s.next, .slice sA sn sc]
  s1 : L 1 = true → u68 = .slice (some ⟨wb, wo, none⟩) wn wc
  s2 : L 2 = true → u69 = .int .i64 (tn : Int)
  s3 : L 3 = true → u70 = .pointer (some ⟨wb, wo + tn, none⟩)
  s4 : L 4 = true → u71 = .int .u32 v
  s5 : L 5 = true → ∃ A n c, u72 = .tuple #[.agg #[.int .i64 s'.next, .slice A n c], .agg #[.int .i64 p.num, .int .u32 p.val], .int .i64 k] ∧ (s'.out.length = n) ∧ (Sl 2 Pce.enc wz A s'.out) ∧ (∀ a, A = some a → w0.heap.size ≤ a.block)
  s6 : L 6 = true → u66 = u72
  s7 : L 7 = true → u73 = tupAt u72 0
  s8 : L 8 = true → u74 = tupAt u72 1
  s9 : L 9 = true → u75 = tupAt u72 2
  x10 : L 10 = true → ∃ X, u11 = .pointer (some ⟨X, 0, none⟩) ∧ w0.heap.size ≤ X ∧ X < wz.heap.size
  z10 : L 10 = true → L 12 = false → ∀ X, u11 = .pointer (some ⟨X, 0, none⟩) → wz.heap[X]? = some (.cells #[.int .i64 0, .slice none 0 0] 27 (0, 0))
  y10 : L 12 = true → ∀ X, u11 = .pointer (some ⟨X, 0, none⟩) → wz.heap[X]? = some (.cells (aggCells (tupAt u72 0)) 27 (0, 0))
  d10_0 : L 5 = true → L 10 = true → ∀ X, u11 = .pointer (some ⟨X, 0, none⟩) → SOff s'.out (aggAt (tupAt u72 0) 1) X
  x11 : L 11 = true → ∃ X, u12 = .pointer (some ⟨X, 0, none⟩) ∧ w0.heap.size ≤ X ∧ X < wz.heap.size
  z11 : L 11 = true → L 13 = false → ∀ X, u12 = .pointer (some ⟨X, 0, none⟩) → wz.heap[X]? = some (.cells #[.int .i64 0, .int .u32 0] 34 (0, 0))
  y11 : L 13 = true → ∀ X, u12 = .pointer (some ⟨X, 0, none⟩) → wz.heap[X]? = some (.cells (aggCells (tupAt u72 1)) 34 (0, 0))
  d11_0 : L 5 = true → L 11 = true → ∀ X, u12 = .pointer (some ⟨X, 0, none⟩) → SOff s'.out (aggAt (tupAt u72 0) 1) X
  s14 : L 14 = true → u13 = tupAt u72 2
  e10_11 : L 10 = true → L 11 = true → ∀ X Y, u11 = .pointer (some ⟨X, 0, none⟩) → u12 = .pointer (some ⟨Y, 0, none⟩) → X ≠ Y
def OnceSPhi (w0 : World) (SX : Nat) (s : Snd) (sA : Option Addr) (sn sc wb wo wn wc tn : Nat) (v : Int) (s' : Snd) (p : Pce) (k : Int) (L : Nat → Bool) (vs : List Value) (w' : World) : Prop :=
  ∃ u67 u68 u69 u70 u71 u72 u66 u73 u74 u75 u11 u12 u13 wz, vs = [u67, u68, u69, u70, u71, u72, u66, u73, u74, u75, u11, u12, u13] ∧ OnceS w0 SX s sA sn sc wb wo wn wc tn v s' p k L u67 u68 u69 u70 u71 u72 u66 u73 u74 u75 u11 u12 u13 wz ∧ wz = w'

theorem sendR_test (SX : Nat) (s s' : Snd) (p : Pce) (k : Int) (sA : Option Addr) (sn sc wb wo wn wc tn : Nat) (v : Int) (w : World) (u4 : Value) : True := trivial
structure OnceG (w0 : World) (GX : Nat) (g : Gtr) (gA : Option Addr) (gn gc : Nat) (gB : Option Addr) (gm gd tb tj tn tc hb ho hn hc i j : Nat) (q : Int) (p : Pce) (g' : Gtr) (L : Nat → Bool) (u98 u99 u100 u101 u102 u103 u104 u105 u106 u107 u108 u109 u110 u111 u97 u112 u113 u114 u14 u15 u16 : Value) (wz : World) : Prop where
  b : Below w0.heap.size w0 wz
  s0 : L 0 = true → u98 = .agg #[.int .i64 g.next, .slice gA gn gc, .slice gB gm gd]
  s1 : L 1 = true → u99 = .slice (some ⟨tb, tj, none⟩) tn tc
  s2 : L 2 = true → u100 = .slice (some ⟨hb, ho, none⟩) hn hc
  s3 : L 3 = true → u101 = .int .i64 (i : Int)
  s4 : L 4 = true → u102 = .pointer (some ⟨hb, ho + i, none⟩)
  s5 : L 5 = true → u103 = .int .u16 q
  s6 : L 6 = true → u104 = .int .u16 (q / 3)
  s7 : L 7 = true → u105 = .int .i64 (q / 3)
  s8 : L 8 = true → u106 = .slice (some ⟨tb, tj, none⟩) tn tc
  s9 : L 9 = true → u107 = .int .i64 (tn : Int)
  s10 : L 10 = true → u108 = .int .i64 (j : Int)
  s11 : L 11 = true → u109 = .pointer (some ⟨tb, tj + j * 2, none⟩)
  s12 : L 12 = true → u110 = .agg #[.int .i64 p.num, .int .u32 p.val]
  s13 : L 13 = true → ∃ A n c B m d, u111 = .tuple #[.agg #[.int .i64 g'.next, .slice A n c, .slice B m d], .int .i64 g'.next, .int .i64 0] ∧ (g'.early.length = n) ∧ (g'.came.length = m) ∧ (Sl 2 Pce.enc wz A g'.early) ∧ (Sl 1 Wrd.enc wz B g'.came) ∧ (∀ a, A = some a → w0.heap.size ≤ a.block) ∧ (∀ a, B = some a → w0.heap.size ≤ a.block)
  s14 : L 14 = true → u97 = u111
  s15 : L 15 = true → u112 = tupAt u111 0
  s16 : L 16 = true → u113 = tupAt u111 1
  s17 : L 17 = true → u114 = tupAt u111 2
  x18 : L 18 = true → ∃ X, u14 = .pointer (some ⟨X, 0, none⟩) ∧ w0.heap.size ≤ X ∧ X < wz.heap.size
  z18 : L 18 = true → L 19 = false → ∀ X, u14 = .pointer (some ⟨X, 0, none⟩) → wz.heap[X]? = some (.cells #[.int .i64 0, .slice none 0 0, .slice none 0 0] 29 (0, 0))
  y18 : L 19 = true → ∀ X, u14 = .pointer (some ⟨X, 0, none⟩) → wz.heap[X]? = some (.cells (aggCells (tupAt u111 0)) 29 (0, 0))
  d18_0 : L 13 = true → L 18 = true → ∀ X, u14 = .pointer (some ⟨X, 0, none⟩) → SOff g'.early (aggAt (tupAt u111 0) 1) X
  d18_1 : L 13 = true → L 18 = true → ∀ X, u14 = .pointer (some ⟨X, 0, none⟩) → SOff g'.came (aggAt (tupAt u111 0) 2) X
  s20 : L 20 = true → u15 = tupAt u111 1
  s21 : L 21 = true → u16 = tupAt u111 2
def OnceGPhi (w0 : World) (GX : Nat) (g : Gtr) (gA : Option Addr) (gn gc : Nat) (gB : Option Addr) (gm gd tb tj tn tc hb ho hn hc i j : Nat) (q : Int) (p : Pce) (g' : Gtr) (L : Nat → Bool) (vs : List Value) (w' : World) : Prop :=
  ∃ u98 u99 u100 u101 u102 u103 u104 u105 u106 u107 u108 u109 u110 u111 u97 u112 u113 u114 u14 u15 u16 wz, vs = [u98, u99, u100, u101, u102, u103, u104, u105, u106, u107, u108, u109, u110, u111, u97, u112, u113, u114, u14, u15, u16] ∧ OnceG w0 GX g gA gn gc gB gm gd tb tj tn tc hb ho hn hc i j q p g' L u98 u99 u100 u101 u102 u103 u104 u105 u106 u107 u108 u109 u110 u111 u97 u112 u113 u114 u14 u15 u16 wz ∧ wz = w'
structure OnceA (w0 : World) (SX : Nat) (s : Snd) (sA : Option Addr) (sn sc kb ko kn kc hb ho hn hc i j : Nat) (q x : Int) (s' : Snd) (L : Nat → Bool) (u41 u42 u43 u44 u45 u46 u47 u48 u49 u50 u51 u52 u53 u54 u40 u55 u56 u17 u18 : Value) (wz : World) : Prop where
  b : Below w0.heap.size w0 wz
  s0 : L 0 = true → u41 = .agg #[.int .i64 s.next, .slice sA sn sc]
  s1 : L 1 = true → u42 = .slice (some ⟨kb, ko, none⟩) kn kc
  s2 : L 2 = true → u43 = .slice (some ⟨hb, ho, none⟩) hn hc
  s3 : L 3 = true → u44 = .int .i64 (i : Int)
  s4 : L 4 = true → u45 = .pointer (some ⟨hb, ho + i, none⟩)
  s5 : L 5 = true → u46 = .int .u16 q
  s6 : L 6 = true → u47 = .int .u16 (q / 3)
  s7 : L 7 = true → u48 = .int .i64 (q / 3)
  s8 : L 8 = true → u49 = .slice (some ⟨kb, ko, none⟩) kn kc
  s9 : L 9 = true → u50 = .int .i64 (kn : Int)
  s10 : L 10 = true → u51 = .int .i64 (j : Int)
  s11 : L 11 = true → u52 = .pointer (some ⟨kb, ko + j, none⟩)
  s12 : L 12 = true → u53 = .int .i64 x
  s13 : L 13 = true → ∃ A n c, u54 = .tuple #[.agg #[.int .i64 s'.next, .slice A n c], .int .i64 0] ∧ (s'.out.length = n) ∧ (Sl 2 Pce.enc wz A s'.out) ∧ (∀ a, A = some a → w0.heap.size ≤ a.block)
  s14 : L 14 = true → u40 = u54
  s15 : L 15 = true → u55 = tupAt u54 0
  s16 : L 16 = true → u56 = tupAt u54 1
  x17 : L 17 = true → ∃ X, u17 = .pointer (some ⟨X, 0, none⟩) ∧ w0.heap.size ≤ X ∧ X < wz.heap.size
  z17 : L 17 = true → L 18 = false → ∀ X, u17 = .pointer (some ⟨X, 0, none⟩) → wz.heap[X]? = some (.cells #[.int .i64 0, .slice none 0 0] 27 (0, 0))
  y17 : L 18 = true → ∀ X, u17 = .pointer (some ⟨X, 0, none⟩) → wz.heap[X]? = some (.cells (aggCells (tupAt u54 0)) 27 (0, 0))
  d17_0 : L 13 = true → L 17 = true → ∀ X, u17 = .pointer (some ⟨X, 0, none⟩) → SOff s'.out (aggAt (tupAt u54 0) 1) X
  s19 : L 19 = true → u18 = tupAt u54 1
def OnceAPhi (w0 : World) (SX : Nat) (s : Snd) (sA : Option Addr) (sn sc kb ko kn kc hb ho hn hc i j : Nat) (q x : Int) (s' : Snd) (L : Nat → Bool) (vs : List Value) (w' : World) : Prop :=
  ∃ u41 u42 u43 u44 u45 u46 u47 u48 u49 u50 u51 u52 u53 u54 u40 u55 u56 u17 u18 wz, vs = [u41, u42, u43, u44, u45, u46, u47, u48, u49, u50, u51, u52, u53, u54, u40, u55, u56, u17, u18] ∧ OnceA w0 SX s sA sn sc kb ko kn kc hb ho hn hc i j q x s' L u41 u42 u43 u44 u45 u46 u47 u48 u49 u50 u51 u52 u53 u54 u40 u55 u56 u17 u18 wz ∧ wz = w'
structure OnceF (w0 : World) (GX : Nat) (g : Gtr) (gA : Option Addr) (gn gc : Nat) (gB : Option Addr) (gm gd ob oj on oc kk : Nat) (p : Pce) (g' : Gtr) (L : Nat → Bool) (u178 u179 u180 u181 u182 u183 u177 u184 u185 u186 : Value) (wz : World) : Prop where
  b : True
  bb : L 10 = false → Below w0.heap.size w0 wz
  s0 : L 0 = true → u178 = .agg #[.int .i64 g.next, .slice gA gn gc, .slice gB gm gd]
  s1 : L 1 = true → u179 = .slice (some ⟨ob, oj, none⟩) on oc
  s2 : L 2 = true → u180 = .int .i64 (kk : Int)
  s3 : L 3 = true → u181 = .pointer (some ⟨ob, oj + kk * 2, none⟩)
  s4 : L 4 = true → u182 = .agg #[.int .i64 p.num, .int .u32 p.val]
  s5 : L 5 = true → ∃ A n c B m d, u183 = .tuple #[.agg #[.int .i64 g'.next, .slice A n c, .slice B m d], .int .i64 g'.next, .int .i64 0] ∧ g'.early.length = n ∧ g'.came.length = m ∧ (L 10 = false → Sl 2 Pce.enc wz A g'.early ∧ Sl 1 Wrd.enc wz B g'.came) ∧ (∀ a, A = some a → w0.heap.size ≤ a.block) ∧ (∀ a, B = some a → w0.heap.size ≤ a.block)
  s6 : L 6 = true → u177 = u183
  s7 : L 7 = true → u184 = tupAt u183 0
  st : L 10 = true → ∃ A n c B m d wy, u183 = .tuple #[.agg #[.int .i64 g'.next, .slice A n c, .slice B m d], .int .i64 g'.next, .int .i64 0] ∧ g'.early.length = n ∧ g'.came.length = m ∧ Sl 2 Pce.enc wy A g'.early ∧ Sl 1 Wrd.enc wy B g'.came ∧ (∀ a, A = some a → w0.heap.size ≤ a.block) ∧ (∀ a, B = some a → w0.heap.size ≤ a.block) ∧ Below w0.heap.size w0 wy ∧ wz = (((wy.setCell ⟨GX, 0, none⟩ (.int .i64 g'.next)).setCell ⟨GX, 1, none⟩ (.slice A n c)).setCell ⟨GX, 2, none⟩ (.slice B m d))
def OnceFPhi (w0 : World) (GX : Nat) (g : Gtr) (gA : Option Addr) (gn gc : Nat) (gB : Option Addr) (gm gd ob oj on oc kk : Nat) (p : Pce) (g' : Gtr) (L : Nat → Bool) (vs : List Value) (w' : World) : Prop :=
  ∃ u178 u179 u180 u181 u182 u183 u177 u184 u185 u186 wz, vs = [u178, u179, u180, u181, u182, u183, u177, u184, u185, u186] ∧ OnceF w0 GX g gA gn gc gB gm gd ob oj on oc kk p g' L u178 u179 u180 u181 u182 u183 u177 u184 u185 u186 wz ∧ wz = w'
end Go.Proofs.Ytjnpdicoopgkoaa
