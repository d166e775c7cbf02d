/- The walk of DueSorts. -/
import Derived.Test.YtimhdkgllgdamaaV
namespace Go.Proofs.Ytimhdkgllgdamaa
open Go.RowKit Go.Lib D
set_option linter.unusedVariables false
attribute [local go_sem high] eq30

def cnt (l : List Du) (k : Nat) (x : Du) : Nat := (l.take k).count x
theorem cnt_zero (l : List Du) (x : Du) : cnt l 0 x = 0 := rfl
theorem cnt_hit {l : List Du} {k : Nat} {x : Du} (hk : k < l.length) (h : l[k]! = x) : cnt l (k + 1) x = cnt l k x + 1 := by
  unfold cnt
  rw [take_next hk, List.count_append, h]; simp
theorem cnt_miss {l : List Du} {k : Nat} {x : Du} (hk : k < l.length) (h : l[k]! ≠ x) : cnt l (k + 1) x = cnt l k x := by
  unfold cnt
  rw [take_next hk, List.count_append, List.count_singleton, if_neg (by rw [beq_iff_eq]; exact h)]; rfl
theorem cnt_le (l : List Du) (k : Nat) (x : Du) : cnt l k x ≤ k := by
  unfold cnt
  exact Nat.le_trans List.count_le_length (by rw [List.length_take]; omega)
theorem cnt_perm {l s : List Du} (h : s.Perm l) (x : Du) : cnt l l.length x = cnt s l.length x := by
  unfold cnt
  rw [List.take_of_length_le (Nat.le_refl _), List.take_of_length_le (by rw [h.length_eq]; exact Nat.le_refl _)]
  exact (h.count_eq x).symm
theorem sorted_step {s : List Du} (h : s.Pairwise LeD) {i : Nat} (hi : i < s.length) (h0 : 0 < i) : LeD s[i - 1]! s[i]! := by
  rw [getElem!_pos s (i - 1) (by omega), getElem!_pos s i hi]
  exact List.pairwise_iff_getElem.1 h (i - 1) i (by omega) hi (by omega)
/-- One is added to those that came, and it is unlike them all. -/
theorem add_next {l r : List Du} {i : Nat} (hi : i < l.length) (hr : r = (l.take i).foldl putD []) (hne : ∀ j, j < i → l[j]!.which ≠ l[i]!.which) (hok : (addD r l[i]!).2 = 0) : (addD r l[i]!).1 = (l.take (i + 1)).foldl putD [] := by
  have hrest : restD r l[i]!.which = r := by
    unfold restD
    rw [List.filter_eq_self]
    intro x hx
    rw [hr] at hx
    have h1 : x ∈ l.take i := by
      have := (foldl_put (l.take i) [] List.Pairwise.nil).2
      rw [List.append_nil] at this
      exact this.mem_iff.1 hx
    obtain ⟨j, hj, rfl⟩ := memGet h1
    rw [List.length_take] at hj
    rw [takeAt l i j (by omega) (by omega)]
    simpa using hne j (by omega)
  rw [take_next hi, List.foldl_append, ← hr]
  unfold addD at hok ⊢
  split at hok
  · rename_i h
    rw [if_pos h]
    rw [hrest] at hok ⊢
    split at hok
    · simp at hok
    · rename_i h2
      rw [if_neg h2]; rfl
  · simp at hok
theorem add_len (r : List Du) (d : Du) : (addD r d).1.length ≤ r.length + 1 := by
  unfold addD
  split
  · split
    · simp
    · simp only [putD_length]
      have : (restD r d.which).length ≤ r.length := List.length_filter_le _ _
      omega
  · simp

set_option maxHeartbeats 32000000 in
set_option maxRecDepth 100000 in
theorem dueSorts_row (A : Option Addr) (c : Nat) (l : List Du) (w : World) (hs : Sl 2 Du.enc w A l) :
    Calls Try.prog 4 #[.slice A l.length c] w fun e w' => e = .returned (.bool true) ∧ Below w.heap.size w w' := by
  have hbig := hs.big
  obtain ⟨n, hn⟩ : ∃ n, l.length = n := ⟨_, rfl⟩
  rw [hn]
  rw [hn] at hbig
  have HN := Lib.hid hn
  have cW := fun w1 => awake_any w1
  clear hn
  go_enter Try.func4, Try.ntmps4
  go_wp2_with fail
  refine (cW _).mono ?_
  rintro e w1 ⟨rfl, b0⟩
  replace hs := hs.below b0
  clear cW
  by_cases hbg : 60 < n
  · have hbz : (60 : Int) < (n : Int) := by omega
    go_wp2_with fail
    go_ret
    exact ⟨rfl, b0⟩
  · have hbz : ¬ (60 : Int) < (n : Int) := by omega
    have hn1 : n ≤ 1000000 := by omega
    have c1 := sort_any A c n l w1 hs HN.out hn1
    have hsr : sort200 l = sortD l := by unfold sort200; rw [if_neg (by rw [HN.out]; omega)]
    rw [hsr] at c1
    have HSS := Lib.hid (sortD_sorted l)
    have HSP := Lib.hid (sortD_perm l)
    have hsl : (sortD l).length = n := by rw [(sortD_perm l).length_eq]; exact HN.out
    have HSL := Lib.hid hsl
    have HSD := Lib.hid (rfl : sortD l = sortD l)
    have hadd : ∀ r : List Du, r = (l.take n).foldl putD [] → r = sortD l := fun r h => by
      rw [h, List.take_of_length_le (by rw [HN.out]; exact Nat.le_refl _)]; rfl
    have HADD := Lib.hid hadd
    have hrg : rightD l = true → sortD l = l := fun h => sorted_unique (sortD_sorted l) (right_sorted h) (sortD_perm l)
    have HRG := Lib.hid hrg
    clear hsr hsl hadd hrg HSD
    generalize sortD l = S at *
    go_wp2_with fail
    refine c1.mono ?_
    rintro e w2 ⟨v2, rfl, own2, hb⟩
    replace hs := hs.below hb
    have b2 := b0.trans (hb.mono b0.size)
    obtain ⟨SA, sc, rfl⟩ := own_shape own2
    have ss := Sl.of_own Du.enc_len own2 HSL.out
    clear c1 own2 b0 hb hbg
    have HS := Lib.hid hs
    have HT := Lib.hid ss
    clear hs ss
    go_wp2_with fail
    go_loopg [4, 5, 6, 7] n (fun gg s4 s5 s6 s7 wr => ∃ i : Nat, i ≤ n ∧ n - i ≤ gg ∧ s4 = .int .i64 (i : Int) ∧ Aside (Below w2.heap.size w2 wr))
    case atStart => exact ⟨0, Nat.zero_le _, by omega, rfl, Below.refl _ _⟩
    case round =>
      obtain ⟨i, hi, hg, rfl, HB⟩ := hrel
      by_cases hlt : i < n
      · have hltz : (i : Int) < (n : Int) := by omega
        have hiS : i < S.length := by rw [HSL.out]; exact hlt
        have HIS := Lib.hid hiS
        clear hiS
        go_wp2_with fail
        go_loopg [5, 6, 7] n (fun gg s5 s6 s7 wq => ∃ k : Nat, k ≤ n ∧ n - k ≤ gg ∧ s5 = .int .i64 (cnt l k S[i]! : Int) ∧ s6 = .int .i64 (cnt S k S[i]! : Int) ∧ s7 = .int .i64 (k : Int) ∧ Aside (Below w2.heap.size w2 wq))
        case atStart => exact ⟨0, Nat.zero_le _, by omega, by rw [cnt_zero]; rfl, by rw [cnt_zero]; rfl, rfl, HB⟩
        case round =>
          clear HB
          obtain ⟨k, hk, hgk, rfl, rfl, rfl, HB⟩ := hrel
          by_cases hklt : k < n
          · have hkz : (k : Int) < (n : Int) := by omega
            obtain ⟨b1, o1, rfl, hq0⟩ := (HS.out.below HB.out).at_ k (by rw [HN.out]; exact hklt)
            obtain ⟨b3, o3, rfl, hr0⟩ := (HT.out.below HB.out).at_ k (by rw [HSL.out]; exact hklt)
            obtain ⟨b4, o4, e4, hx0⟩ := (HT.out.below HB.out).at_ i HIS.out
            obtain ⟨rfl, rfl⟩ : b3 = b4 ∧ o3 = o4 := by simpa using e4
            have q0 := hq0 0 _ rfl
            have q1 := hq0 1 _ rfl
            have r0 := hr0 0 _ rfl
            have r1 := hr0 1 _ rfl
            have x0 := hx0 0 _ rfl
            have x1 := hx0 1 _ rfl
            rw [Nat.add_zero] at q0 r0 x0
            have hl1 := cnt_le l k S[i]!
            have hl2 := cnt_le S k S[i]!
            have hcl : cnt l (k + 1) S[i]! = cnt l k S[i]! + (if l[k]! = S[i]! then 1 else 0) := by
              by_cases h : l[k]! = S[i]!
              · rw [cnt_hit (by rw [HN.out]; exact hklt) h, if_pos h]
              · rw [cnt_miss (by rw [HN.out]; exact hklt) h, if_neg h]; rfl
            have hcs : cnt S (k + 1) S[i]! = cnt S k S[i]! + (if S[k]! = S[i]! then 1 else 0) := by
              by_cases h : S[k]! = S[i]!
              · rw [cnt_hit (by rw [HSL.out]; exact hklt) h, if_pos h]
              · rw [cnt_miss (by rw [HSL.out]; exact hklt) h, if_neg h]; rfl
            have e1 := du_beq l[k]! S[i]!
            have e2 := du_beq S[k]! S[i]!
            obtain ⟨c1', hc1⟩ : ∃ z, cnt l (k + 1) S[i]! = z := ⟨_, rfl⟩
            obtain ⟨c2', hc2⟩ : ∃ z, cnt S (k + 1) S[i]! = z := ⟨_, rfl⟩
            rw [hc1] at hcl
            rw [hc2] at hcs
            have HC1 := Lib.hid hc1
            have HC2 := Lib.hid hc2
            clear hq0 hr0 hx0 e4 hc1 hc2
            have HXX := Lib.hid (rfl : S[i]! = S[i]!)
            generalize cnt l k S[i]! = m1 at *
            generalize cnt S k S[i]! = m2 at *
            generalize S[i]! = x at *
            generalize l[k]! = y at *
            generalize S[k]! = z at *
            clear HXX
            by_cases hy : y = x
            · by_cases hz : z = x
              · rw [decide_eq_true hy] at e1
                rw [decide_eq_true hz] at e2
                rw [if_pos hy] at hcl
                rw [if_pos hz] at hcs
                have hcl1 : c1' = m1 + 1 := hcl
                have hcs1 : c2' = m2 + 1 := hcs
                have HD1 := Lib.hid hcl1
                have HD2 := Lib.hid hcs1
                clear hcl hcs hcl1 hcs1 hy hz
                go_wp2_with fail
                go_quiet (fail)
                go_wp2_with fail
                go_quiet (fail)
                go_wp2_with fail
                go_roundg (n - (k + 1))
                case measure => omega
                case rel => exact ⟨k + 1, by omega, by omega, by rw [HC1.out, HD1.out]; go_num, by rw [HC2.out, HD2.out]; go_num, by go_num, (show Aside _ from bdrewN HB.out _)⟩
              · rw [decide_eq_true hy] at e1
                rw [decide_eq_false hz] at e2
                rw [if_pos hy] at hcl
                rw [if_neg hz] at hcs
                have hcl1 : c1' = m1 + 1 := hcl
                have hcs1 : c2' = m2 + 0 := hcs
                have HD1 := Lib.hid hcl1
                have HD2 := Lib.hid hcs1
                clear hcl hcs hcl1 hcs1 hy hz
                go_wp2_with fail
                go_quiet (fail)
                go_wp2_with fail
                go_quiet (fail)
                go_wp2_with fail
                go_roundg (n - (k + 1))
                case measure => omega
                case rel => exact ⟨k + 1, by omega, by omega, by rw [HC1.out, HD1.out]; go_num, by rw [HC2.out, HD2.out]; go_num, by go_num, (show Aside _ from bdrewN HB.out _)⟩
            · by_cases hz : z = x
              · rw [decide_eq_false hy] at e1
                rw [decide_eq_true hz] at e2
                rw [if_neg hy] at hcl
                rw [if_pos hz] at hcs
                have hcl1 : c1' = m1 + 0 := hcl
                have hcs1 : c2' = m2 + 1 := hcs
                have HD1 := Lib.hid hcl1
                have HD2 := Lib.hid hcs1
                clear hcl hcs hcl1 hcs1 hy hz
                go_wp2_with fail
                go_quiet (fail)
                go_wp2_with fail
                go_quiet (fail)
                go_wp2_with fail
                go_roundg (n - (k + 1))
                case measure => omega
                case rel => exact ⟨k + 1, by omega, by omega, by rw [HC1.out, HD1.out]; go_num, by rw [HC2.out, HD2.out]; go_num, by go_num, (show Aside _ from bdrewN HB.out _)⟩
              · rw [decide_eq_false hy] at e1
                rw [decide_eq_false hz] at e2
                rw [if_neg hy] at hcl
                rw [if_neg hz] at hcs
                have hcl1 : c1' = m1 + 0 := hcl
                have hcs1 : c2' = m2 + 0 := hcs
                have HD1 := Lib.hid hcl1
                have HD2 := Lib.hid hcs1
                clear hcl hcs hcl1 hcs1 hy hz
                go_wp2_with fail
                go_quiet (fail)
                go_wp2_with fail
                go_quiet (fail)
                go_wp2_with fail
                go_roundg (n - (k + 1))
                case measure => omega
                case rel => exact ⟨k + 1, by omega, by omega, by rw [HC1.out, HD1.out]; go_num, by rw [HC2.out, HD2.out]; go_num, by go_num, (show Aside _ from bdrewN HB.out _)⟩
          · obtain rfl : k = n := by omega
            have hkz : ¬ (k : Int) < (k : Int) := by omega
            have hceq : cnt l k S[i]! = cnt S k S[i]! := by
              have := cnt_perm HSP.out S[i]!
              rw [HN.out] at this
              exact this
            rw [hceq]
            clear hceq hk
            generalize cnt S k S[i]! = m2 at *
            have zne : ((m2 : Int) != (m2 : Int)) = false := by simp
            obtain ⟨b4, o4, rfl, hx0⟩ := (HT.out.below HB.out).at_ i HIS.out
            have x0 := hx0 0 _ rfl
            have x1 := hx0 1 _ rfl
            rw [Nat.add_zero] at x0
            by_cases h0 : 0 < i
            · obtain ⟨i1, hi1⟩ : ∃ i1, i - 1 = i1 := ⟨_, rfl⟩
              obtain ⟨b5, o5, e5, hp0⟩ := (HT.out.below HB.out).at_ i1 (by have := HIS.out; omega)
              obtain ⟨rfl, rfl⟩ : b4 = b5 ∧ o4 = o5 := by simpa using e5
              have p0 := hp0 0 _ rfl
              have p1 := hp0 1 _ rfl
              rw [Nat.add_zero] at p0
              have hle := LeD.iff.1 (sorted_step HSS.out HIS.out h0)
              rw [hi1] at hle
              have hw4 : (i : Int) - 1 = (i1 : Int) := by omega
              have hw5 : IntKind.i64.wrap (i1 : Int) = (i1 : Int) := IntWalk.i64_in _ (by omega)
              have hw3 : (i1 : Int) < (k : Int) := by omega
              have hw2 : (0 : Int) ≤ (i1 : Int) := by omega
              have h0z : (0 : Int) < (i : Int) := by omega
              have zk : decide ((0 : Int) < (i : Int)) = true := decide_eq_true h0z
              have zk2 : decide (0 < i) = true := decide_eq_true h0
              clear hx0 hp0 e5 hi1
              generalize S[i]! = x at *
              generalize S[i1]! = y at *
              have hnl : ¬ x.when_ < y.when_ := by omega
              have zn1 : decide (x.when_ < y.when_) = false := decide_eq_false hnl
              by_cases heq : x.when_ = y.when_
              · have zn2 : (x.when_ == y.when_) = true := by rw [beq_iff_eq]; exact heq
                have hnw : ¬ x.which < y.which := by omega
                have zn3 : decide (x.which < y.which) = false := decide_eq_false hnw
                clear heq hle h0
                go_wp2_with fail
                go_quiet (fail)
                go_wp2_with fail
                go_roundg (k - (i + 1))
                case measure => omega
                case rel => exact ⟨i + 1, by omega, by omega, by go_num, (show Aside _ from bdrewN HB.out _)⟩
              · have zn2 : (x.when_ == y.when_) = false := by rw [beq_eq_false_iff_ne]; exact heq
                clear heq hle h0
                go_wp2_with fail
                go_quiet (fail)
                go_wp2_with fail
                go_roundg (k - (i + 1))
                case measure => omega
                case rel => exact ⟨i + 1, by omega, by omega, by go_num, (show Aside _ from bdrewN HB.out _)⟩
            · have h0z : ¬ (0 : Int) < (i : Int) := by omega
              have zk : decide ((0 : Int) < (i : Int)) = false := decide_eq_false h0z
              have zk2 : decide (0 < i) = false := decide_eq_false h0
              clear hx0 h0
              go_wp2_with fail
              go_quiet (fail)
              go_wp2_with fail
              go_roundg (k - (i + 1))
              case measure => omega
              case rel => exact ⟨i + 1, by omega, by omega, by go_num, (show Aside _ from bdrewN HB.out _)⟩
      · obtain rfl : i = n := by omega
        have hltz : ¬ (i : Int) < (i : Int) := by omega
        have HNN := Lib.hid (rfl : i = i)
        clear hi hg
        go_wp2_with fail
        go_loopg [8, 9, 10, 11, 12, 13] i (fun gg s8 s9 s10 s11 s12 s13 wr => ∃ (j m qc : Nat) (Q : Option Addr) (r : List Du) (u : Bool), j ≤ i ∧ i - j ≤ gg ∧ m ≤ j ∧ s8 = .slice Q m qc ∧ s9 = .bool u ∧ s10 = .int .i64 (j : Int) ∧
          Aside (Sl 2 Du.enc wr Q r) ∧ Aside (r.length = m) ∧ Aside (u = true → r = (l.take j).foldl putD []) ∧ Aside (Below w2.heap.size w2 wr))
        case atStart => exact ⟨0, 0, 0, none, [], true, Nat.zero_le _, by omega, Nat.le_refl _, rfl, rfl, rfl, Sl.nil _ _ _ _, rfl, (show Aside _ from fun _ => rfl), HB⟩
        case round =>
          clear HB
          obtain ⟨j, m, qc, Q, r, u, hj, hg, hmj, rfl, rfl, rfl, HQ, HL, HU, HB⟩ := hrel
          by_cases hjlt : j < i
          · have hjz : (j : Int) < (i : Int) := by omega
            have hjn : j < l.length := by rw [HN.out]; exact hjlt
            have HJN := Lib.hid hjn
            clear hjn
            have HB0 := HB
            go_wp2_with fail
            go_loopg [9, 11] j (fun gg s9 s11 wq => ∃ (k : Nat) (u' : Bool), k ≤ j ∧ j - k ≤ gg ∧ s9 = .bool u' ∧ s11 = .int .i64 (k : Int) ∧ Aside (u' = true → u = true ∧ ∀ t, t < k → l[t]!.which ≠ l[j]!.which) ∧ Aside (Below wr.heap.size wr wq))
            case atStart => exact ⟨0, u, Nat.zero_le _, by omega, rfl, rfl, (show Aside _ from fun h => ⟨h, fun t ht => absurd ht (Nat.not_lt_zero _)⟩), Below.refl _ _⟩
            case round =>
              obtain ⟨k, u', hk, hgk, rfl, rfl, HUK, HBQ⟩ := hrel
              have B := HB.out.trans (HBQ.out.mono HB.out.size)
              by_cases hkj : k < j
              · have hkz : (k : Int) < (j : Int) := by omega
                have hki : (k : Int) < (i : Int) := by omega
                obtain ⟨b1, o1, rfl, hq0⟩ := (HS.out.below B).at_ k (by have := HJN.out; omega)
                obtain ⟨b3, o3, e3, hr0⟩ := (HS.out.below B).at_ j HJN.out
                obtain ⟨rfl, rfl⟩ : b1 = b3 ∧ o1 = o3 := by simpa using e3
                have q1 := hq0 1 _ rfl
                have r1 := hr0 1 _ rfl
                clear hq0 hr0 e3
                cases u' with
                | false =>
                  clear q1 r1
                  go_wp2_with fail
                  go_quiet (fail)
                  go_wp2_with fail
                  go_roundg (j - (k + 1))
                  case measure => omega
                  case rel => exact ⟨k + 1, false, by omega, by omega, rfl, by go_num, (show Aside _ from fun h => by cases h), (show Aside _ from bdrewN HBQ.out _)⟩
                | true =>
                  by_cases hw : l[k]!.which = l[j]!.which
                  · have zw : (l[k]!.which != l[j]!.which) = false := by rw [bne_eq_false_iff_eq]; exact hw
                    clear hw
                    generalize l[k]!.which = xk at q1 zw
                    generalize l[j]!.which = xj at r1 zw
                    go_wp2_with fail
                    go_quiet (fail)
                    go_wp2_with fail
                    go_roundg (j - (k + 1))
                    case measure => omega
                    case rel => exact ⟨k + 1, false, by omega, by omega, rfl, by go_num, (show Aside _ from fun h => by cases h), (show Aside _ from bdrewN HBQ.out _)⟩
                  · have zw : (l[k]!.which != l[j]!.which) = true := by rw [bne_iff_ne]; exact hw
                    have HUK2 := Lib.hid (HUK.out rfl)
                    have HW := Lib.hid hw
                    clear hw
                    generalize hxk : l[k]!.which = xk at q1 zw
                    generalize hxj : l[j]!.which = xj at r1 zw
                    have HXK := Lib.hid hxk
                    have HXJ := Lib.hid hxj
                    clear hxk hxj
                    go_wp2_with fail
                    go_quiet (fail)
                    go_wp2_with fail
                    go_roundg (j - (k + 1))
                    case measure => omega
                    case rel =>
                      refine ⟨k + 1, true, by omega, by omega, rfl, by go_num, (show Aside _ from fun h => ⟨HUK2.out.1, fun t ht => ?_⟩), (show Aside _ from bdrewN HBQ.out _)⟩
                      by_cases e : t = k
                      · subst e; exact HW.out
                      · exact HUK2.out.2 t (by omega)
              · obtain rfl : k = j := by omega
                have hkz : ¬ (k : Int) < (k : Int) := by omega
                obtain ⟨b1, o1, rfl, hq0⟩ := (HS.out.below B).at_ k HJN.out
                have q0 := hq0 0 _ rfl
                have q1 := hq0 1 _ rfl
                rw [Nat.add_zero] at q0
                have cA := add_any Q qc m r l[k]! wr (HQ.out.below HBQ.out) HL.out (by omega)
                have hal := add_len r l[k]!
                rw [HL.out] at hal
                have hnx : u' = true → (addD r l[k]!).2 = 0 → (addD r l[k]!).1 = (l.take (k + 1)).foldl putD [] := fun h1 h2 => add_next HJN.out (HU.out (HUK.out h1).1) (HUK.out h1).2 h2
                have HNX := Lib.hid hnx
                clear hnx hq0 hk hgk HUK HU
                generalize hra : addD r l[k]! = ra at *
                have HRA := Lib.hid hra
                clear hra
                obtain ⟨r2, k2⟩ := ra
                generalize l[k]! = x at *
                go_wp2_with fail
                refine cA.mono ?_
                rintro e w5 ⟨Q2, qc2, rfl, own5, hb5⟩
                have B5 := B.trans (hb5.mono B.size)
                have sQ := Sl.of_own Du.enc_len own5 rfl
                obtain ⟨m2, hm2⟩ : ∃ m2, r2.length = m2 := ⟨_, rfl⟩
                rw [hm2]
                have hal2 : m2 ≤ m + 1 := by rw [← hm2]; exact hal
                have HM2 := Lib.hid hm2
                clear cA own5 hb5 hal hm2 q0 q1
                cases u' with
                | false =>
                  go_wp2_with fail
                  go_roundg (i - (k + 1))
                  case measure => omega
                  case rel => exact ⟨k + 1, m2, qc2, Q2, r2, false, by omega, by omega, by omega, rfl, rfl, by go_num, (show Aside _ from sQ), (show Aside _ from HM2.out), (show Aside _ from fun h => by cases h), (show Aside _ from B5)⟩
                | true =>
                  by_cases hk2 : k2 = 0
                  · have zk : (k2 == 0) = true := by rw [beq_iff_eq]; exact hk2
                    have HFIN := Lib.hid (HNX.out rfl hk2)
                    clear hk2
                    go_wp2_with fail
                    go_roundg (i - (k + 1))
                    case measure => omega
                    case rel => exact ⟨k + 1, m2, qc2, Q2, r2, true, by omega, by omega, by omega, rfl, rfl, by go_num, (show Aside _ from sQ), (show Aside _ from HM2.out), (show Aside _ from fun _ => HFIN.out), (show Aside _ from B5)⟩
                  · have zk : (k2 == 0) = false := by rw [beq_eq_false_iff_ne]; exact hk2
                    clear hk2
                    go_wp2_with fail
                    go_roundg (i - (k + 1))
                    case measure => omega
                    case rel => exact ⟨k + 1, m2, qc2, Q2, r2, false, by omega, by omega, by omega, rfl, rfl, by go_num, (show Aside _ from sQ), (show Aside _ from HM2.out), (show Aside _ from fun h => by cases h), (show Aside _ from B5)⟩
          · obtain rfl : j = i := by omega
            have hjz : ¬ (j : Int) < (j : Int) := by omega
            have hsl := HS.out.below HB.out
            have ssl := HT.out.below HB.out
            have B := b2.trans (HB.out.mono b2.size)
            have cR := fun w1 (h : Sl 2 Du.enc w1 A l) => right_any A c j l w1 h HN.out hn1
            cases u with
            | false =>
              cases hr : rightD l with
              | false =>
                rw [hr] at cR
                have cX := cR _ hsl
                clear cR hr
                go_wp2_with fail
                refine cX.mono ?_
                rintro e w6 ⟨rfl, hb⟩
                replace B := B.trans (hb.mono B.size)
                go_wp2_with fail
                go_ret
                exact ⟨rfl, B⟩
              | true =>
                have hSl := HRG.out hr
                rw [hr] at cR
                have cX := cR _ hsl
                have cY := fun w1 (h : Sl 2 Du.enc w1 SA S) (h2 : Sl 2 Du.enc w1 A l) => rsame_any SA A sc c j j S l w1 h h2 HSL.out HN.out
                rw [decide_eq_true hSl] at cY
                clear cR hr hSl
                go_wp2_with fail
                refine cX.mono ?_
                rintro e w6 ⟨rfl, hb⟩
                replace B := B.trans (hb.mono B.size)
                have cZ := cY _ (ssl.below hb) (hsl.below hb)
                go_wp2_with fail
                refine cZ.mono ?_
                rintro e w7 ⟨rfl, hb⟩
                replace B := B.trans (hb.mono B.size)
                go_wp2_with fail
                go_ret
                exact ⟨rfl, B⟩
            | true =>
              have hrS : r = S := HADD.out r (HU.out rfl)
              have cQ := rsame_any Q SA qc sc m j r S wr HQ.out ssl HL.out HSL.out
              rw [decide_eq_true hrS] at cQ
              clear hrS
              go_wp2_with fail
              refine cQ.mono ?_
              rintro e w5 ⟨rfl, hb⟩
              replace B := B.trans (hb.mono B.size)
              replace hsl := hsl.below hb
              replace ssl := ssl.below hb
              clear hb cQ
              cases hr : rightD l with
              | false =>
                rw [hr] at cR
                have cX := cR _ hsl
                clear cR hr
                go_wp2_with fail
                refine cX.mono ?_
                rintro e w6 ⟨rfl, hb⟩
                replace B := B.trans (hb.mono B.size)
                go_wp2_with fail
                go_ret
                exact ⟨rfl, B⟩
              | true =>
                have hSl := HRG.out hr
                rw [hr] at cR
                have cX := cR _ hsl
                have cY := fun w1 (h : Sl 2 Du.enc w1 SA S) (h2 : Sl 2 Du.enc w1 A l) => rsame_any SA A sc c j j S l w1 h h2 HSL.out HN.out
                rw [decide_eq_true hSl] at cY
                clear cR hr hSl
                go_wp2_with fail
                refine cX.mono ?_
                rintro e w6 ⟨rfl, hb⟩
                replace B := B.trans (hb.mono B.size)
                have cZ := cY _ (ssl.below hb) (hsl.below hb)
                go_wp2_with fail
                refine cZ.mono ?_
                rintro e w7 ⟨rfl, hb⟩
                replace B := B.trans (hb.mono B.size)
                go_wp2_with fail
                go_ret
                exact ⟨rfl, B⟩
end Go.Proofs.Ytimhdkgllgdamaa
