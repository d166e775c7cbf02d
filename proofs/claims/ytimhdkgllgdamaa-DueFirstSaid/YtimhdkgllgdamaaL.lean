/- The walk of due.Sort. -/
import Derived.Test.YtimhdkgllgdamaaK
namespace Go.Proofs.Ytimhdkgllgdamaa
open Go.RowKit Go.Lib D
set_option linter.unusedVariables false

theorem HV.new {w : World} {base n : Nat} {v : Value} {l : List Du} (own : w.ownsRow base 30 2 v n (l.flatMap Du.enc)) (hl : l.length = n) : HV (w.alloc (.cells #[v] 49)) w.heap.size base n v l :=
  ⟨World.cell?_alloc_new (w := w) _ _ _, by go_simp, own.alloc _, hl, fun e => by have := (own.lt _ e.symm).2; omega, by simp⟩
/-- What was made since B, and the row, are all that turned. -/
theorem Two.since {B : Nat} {w0 w1 w2 : World} {base e k n : Nat} {v : Value} {cs : List Value} {o : Obj} (hb : Below B w0 w1) (hB : B ≤ w1.heap.size) (own : w1.ownsRow base e k v n cs) (hbase : B ≤ base) (t : Two (w1.alloc o) w2 w1.heap.size v.ownBlock) : Below B w0 w2 :=
  t.old (hb.alloc hB o) (by simp; omega) hB (fun b hb' => Nat.le_trans hbase (own.lt b hb').1)
def sort200 (l : List Du) : List Du := if 200 < l.length then l else sortD l
set_option maxHeartbeats 8000000 in
theorem sort_any (A : Option Addr) (c n : Nat) (l : List Du) (w : World) (hs : Sl 2 Du.enc w A l) (hn : l.length = n) (hn1 : n ≤ 1000000) :
    Calls Try.prog 10 #[.slice A n c] w fun e w' => ∃ v', e = .returned v' ∧ w'.ownsRow w.heap.size 30 2 v' n ((sort200 l).flatMap Du.enc) ∧ Below w.heap.size w w' := by
  have cC := fun w1 (h : Sl 2 Du.enc w1 A l) => clone_any A c n l w1 h hn hn1
  have HN := Lib.hid hn
  clear hn
  by_cases h2 : 200 < n
  · have hr : sort200 l = l := by unfold sort200; rw [if_pos (by rw [HN.out]; exact h2)]
    rw [hr]
    clear hr
    have z1 : (200 : Int) < (n : Int) := by omega
    have cD := cC w hs
    clear cC hs
    go_enter Try.func10, Try.ntmps10
    go_wp2_with fail
    refine cD.mono ?_
    rintro e w1 ⟨v1, rfl, own1, hb1⟩
    clear cD
    obtain ⟨A3, c3, rfl⟩ := own_shape own1
    go_wp2_with fail
    go_ret
    exact ⟨_, rfl, own1, hb1⟩
  · have hr : sort200 l = sortD l := by unfold sort200; rw [if_neg (by rw [HN.out]; exact h2)]
    rw [hr]
    clear hr
    have z1 : ¬ (200 : Int) < (n : Int) := by omega
    have cD := cC w hs
    clear cC hs
    go_enter Try.func10, Try.ntmps10
    go_wp2_with fail
    refine cD.mono ?_
    rintro e w1 ⟨v1, rfl, own1, hb1⟩
    clear cD
    obtain ⟨A3, c3, rfl⟩ := own_shape own1
    have h1 := HV.new own1 HN.out
    have cI := init_any w1.heap.size w.heap.size n c3 A3 l _ h1 hn1
    have hsort := HeapOf.init (sortD_perm l).symm (sortD_sorted l)
    rw [HN.out] at hsort
    go_wp2_with fail
    refine cI.mono ?_
    rintro e w2 ⟨rfl, h2', hg2⟩
    clear cI
    have cE := drained_any w1.heap.size w.heap.size n c3 A3 _ _ w2 h2' hsort hn1
    have t2 := Two.of_grown (x := w1.heap.size) hg2
    clear hsort h1 hg2 h2'
    go_wp2_with fail
    refine cE.mono ?_
    rintro e w3 ⟨v3, rfl, own3, t3⟩
    clear cE
    have t4 := t2.trans t3 (Row.refl _ _)
    have hsz := t2.size
    have hsz1 := hb1.size
    have own4 := own_weaken' (b' := w.heap.size) own3 (by simp at hsz; omega)
    obtain ⟨A4, c4, rfl⟩ := own_shape own4
    have hb4 := Two.since hb1 hsz1 own1 (Nat.le_refl _) t4
    clear t4 t3 t2
    go_wp2_with fail
    go_ret
    exact ⟨_, rfl, own4, hb4⟩
end Go.Proofs.Ytimhdkgllgdamaa
