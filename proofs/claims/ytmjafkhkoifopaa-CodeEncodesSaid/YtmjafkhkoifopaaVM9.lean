import Derived.Test.YtmjafkhkoifopaaVM1
import Derived.Test.YtmjafkhkoifopaaVM7
import Derived.Test.YtmjafkhkoifopaaVM8
section
namespace Go.Proofs.Ytmjafkhkoifopaa.PCodeDecodes
open Go.RowKit Go.Proofs.YtmjafkhkoifopaaW.PrintWords Go.Proofs.YtmjafkhkoifopaaW.PrintLast Go.Proofs.YtmjafkhkoifopaaW.PrintMore
attribute [local go_sem] max2_int min2_int max_two min_two max_three min_three max_four min_four   -- for this text's walks alone
set_option linter.unusedVariables false
set_option linter.unusedSimpArgs false

/-! ### grapnellaw16_large: function 10 -/
mutual
def grapnellaw16_large.j0 : Nat → Bool → List (S45) → List ByteArray → List (S43) → Option (Bool)
  | 0, _, _, _, _ => none
  | k + 1, x24, x186000, x186001, x186002 => if x24 = true then (some true) else (grapnellaw16_large.l0 k 0 (x186002.length : Int) 0 x186000 x186001 x186002)
def grapnellaw16_large.l0 : Nat → Int → Int → Int → List (S45) → List ByteArray → List (S43) → Option (Bool)
  | 0, _, _, _, _, _, _ => none
  | k + 1, x3, x27, x28, x186000, x186001, x186002 => if x28 < x27 then (if 0 ≤ x28 then (if x28 < (x186002.length : Int) then ((some (([(((rd_T43 x186002 x28).f3).length : Int), (((rd_T43 x186002 x28).f4).length : Int), (((rd_T43 x186002 x28).f5).length : Int)] : List Int) : List Int)).bind fun y189 => (grapnellaw16_large.l1 k x3 x27 x28 y189 (y189.length : Int) 0 x186000 x186001 x186002)) else (none)) else (none)) else (grapnellaw16_large.l2 k x3 (x186001.length : Int) 0 x186000 x186001 x186002)
def grapnellaw16_large.l1 : Nat → Int → Int → Int → List Int → Int → Int → List (S45) → List ByteArray → List (S43) → Option (Bool)
  | 0, _, _, _, _, _, _, _, _, _ => none
  | k + 1, x3, x27, x28, x52, x53, x54, x186000, x186001, x186002 => if x54 < x53 then (if 0 ≤ x54 then (if x54 < (x52.length : Int) then (grapnellaw16_large.l1 k (wrap64 (x3 + (mn (rd x52 x54) 131072))) x27 x28 x52 x53 (wrap64 (x54 + 1)) x186000 x186001 x186002) else (none)) else (none)) else (if x3 > 65536 then (some true) else (grapnellaw16_large.l0 k x3 x27 (wrap64 (x28 + 1)) x186000 x186001 x186002))
def grapnellaw16_large.l2 : Nat → Int → Int → Int → List (S45) → List ByteArray → List (S43) → Option (Bool)
  | 0, _, _, _, _, _, _ => none
  | k + 1, x3, x68, x69, x186000, x186001, x186002 => if x69 < x68 then (if 0 ≤ x69 then (if x69 < (x186001.length : Int) then (grapnellaw16_large.l2 k (wrap64 (x3 + (mn ((rdOf ByteArray.empty x186001 x69).size : Int) 1048576))) x68 (wrap64 (x69 + 1)) x186000 x186001 x186002) else (none)) else (none)) else (grapnellaw16_large.l3 k x3 (x186000.length : Int) 0 x186000 x186001 x186002)
def grapnellaw16_large.l3 : Nat → Int → Int → Int → List (S45) → List ByteArray → List (S43) → Option (Bool)
  | 0, _, _, _, _, _, _ => none
  | k + 1, x3, x84, x85, x186000, x186001, x186002 => if x85 < x84 then (if 0 ≤ x85 then (if x85 < (x186000.length : Int) then (grapnellaw16_large.l3 k (wrap64 (x3 + (mn (((rd_T45 x186000 x85).f0).size : Int) 1048576))) x84 (wrap64 (x85 + 1)) x186000 x186001 x186002) else (none)) else (none)) else (some (decide (x3 > 2097152)))
end
def grapnellaw16_large.f (k : Nat) (l0_0 : List (S45)) (l0_1 : List ByteArray) (l0_2 : List (S43)) : Option (Bool) := if (l0_2.length : Int) > 8100 then (grapnellaw16_large.j0 k true l0_0 l0_1 l0_2) else (if (l0_1.length : Int) > 1100 then (grapnellaw16_large.j0 k true l0_0 l0_1 l0_2) else (grapnellaw16_large.j0 k (decide ((l0_0.length : Int) > 300)) l0_0 l0_1 l0_2))
theorem grapnellaw16_large.mono_l : ∀ k, (∀ y0 y1 y2 y3, LeO (grapnellaw16_large.j0 k y0 y1 y2 y3) (grapnellaw16_large.j0 (k + 1) y0 y1 y2 y3)) ∧ (∀ y0 y1 y2 y3 y4 y5, LeO (grapnellaw16_large.l0 k y0 y1 y2 y3 y4 y5) (grapnellaw16_large.l0 (k + 1) y0 y1 y2 y3 y4 y5)) ∧ (∀ y0 y1 y2 y3 y4 y5 y6 y7 y8, LeO (grapnellaw16_large.l1 k y0 y1 y2 y3 y4 y5 y6 y7 y8) (grapnellaw16_large.l1 (k + 1) y0 y1 y2 y3 y4 y5 y6 y7 y8)) ∧ (∀ y0 y1 y2 y3 y4 y5, LeO (grapnellaw16_large.l2 k y0 y1 y2 y3 y4 y5) (grapnellaw16_large.l2 (k + 1) y0 y1 y2 y3 y4 y5)) ∧ (∀ y0 y1 y2 y3 y4 y5, LeO (grapnellaw16_large.l3 k y0 y1 y2 y3 y4 y5) (grapnellaw16_large.l3 (k + 1) y0 y1 y2 y3 y4 y5))
  | 0 => ⟨fun _ _ _ _ r h => by simp [grapnellaw16_large.j0] at h, fun _ _ _ _ _ _ r h => by simp [grapnellaw16_large.l0] at h, fun _ _ _ _ _ _ _ _ _ r h => by simp [grapnellaw16_large.l1] at h, fun _ _ _ _ _ _ r h => by simp [grapnellaw16_large.l2] at h, fun _ _ _ _ _ _ r h => by simp [grapnellaw16_large.l3] at h⟩
  | k + 1 => by
    obtain ⟨ih0, ih1, ih2, ih3, ih4⟩ := grapnellaw16_large.mono_l k
    refine ⟨?_, ?_, ?_, ?_, ?_⟩
    · intro y0 y1 y2 y3
      unfold grapnellaw16_large.j0
      repeat' first
      | (with_reducible exact ih0 _ _ _ _)
      | (with_reducible exact ih1 _ _ _ _ _ _)
      | (with_reducible exact ih2 _ _ _ _ _ _ _ _ _)
      | (with_reducible exact ih3 _ _ _ _ _ _)
      | (with_reducible exact ih4 _ _ _ _ _ _)
      | (with_reducible exact LeO.refl _)
      | (with_reducible exact LeO.none _)
      | (with_reducible refine LeO.ite ?_ ?_)
      | (with_reducible refine LeO.bind ?_ (fun _ => ?_))
      | exact ih0 _ _ _ _
      | exact ih1 _ _ _ _ _ _
      | exact ih2 _ _ _ _ _ _ _ _ _
      | exact ih3 _ _ _ _ _ _
      | exact ih4 _ _ _ _ _ _
      | exact LeO.none _
      | refine LeO.ite ?_ ?_
      | refine LeO.bind ?_ (fun _ => ?_)
    · intro y0 y1 y2 y3 y4 y5
      unfold grapnellaw16_large.l0
      repeat' first
      | (with_reducible exact ih0 _ _ _ _)
      | (with_reducible exact ih1 _ _ _ _ _ _)
      | (with_reducible exact ih2 _ _ _ _ _ _ _ _ _)
      | (with_reducible exact ih3 _ _ _ _ _ _)
      | (with_reducible exact ih4 _ _ _ _ _ _)
      | (with_reducible exact LeO.refl _)
      | (with_reducible exact LeO.none _)
      | (with_reducible refine LeO.ite ?_ ?_)
      | (with_reducible refine LeO.bind ?_ (fun _ => ?_))
      | exact ih0 _ _ _ _
      | exact ih1 _ _ _ _ _ _
      | exact ih2 _ _ _ _ _ _ _ _ _
      | exact ih3 _ _ _ _ _ _
      | exact ih4 _ _ _ _ _ _
      | exact LeO.none _
      | refine LeO.ite ?_ ?_
      | refine LeO.bind ?_ (fun _ => ?_)
    · intro y0 y1 y2 y3 y4 y5 y6 y7 y8
      unfold grapnellaw16_large.l1
      repeat' first
      | (with_reducible exact ih0 _ _ _ _)
      | (with_reducible exact ih1 _ _ _ _ _ _)
      | (with_reducible exact ih2 _ _ _ _ _ _ _ _ _)
      | (with_reducible exact ih3 _ _ _ _ _ _)
      | (with_reducible exact ih4 _ _ _ _ _ _)
      | (with_reducible exact LeO.refl _)
      | (with_reducible exact LeO.none _)
      | (with_reducible refine LeO.ite ?_ ?_)
      | (with_reducible refine LeO.bind ?_ (fun _ => ?_))
      | exact ih0 _ _ _ _
      | exact ih1 _ _ _ _ _ _
      | exact ih2 _ _ _ _ _ _ _ _ _
      | exact ih3 _ _ _ _ _ _
      | exact ih4 _ _ _ _ _ _
      | exact LeO.none _
      | refine LeO.ite ?_ ?_
      | refine LeO.bind ?_ (fun _ => ?_)
    · intro y0 y1 y2 y3 y4 y5
      unfold grapnellaw16_large.l2
      repeat' first
      | (with_reducible exact ih0 _ _ _ _)
      | (with_reducible exact ih1 _ _ _ _ _ _)
      | (with_reducible exact ih2 _ _ _ _ _ _ _ _ _)
      | (with_reducible exact ih3 _ _ _ _ _ _)
      | (with_reducible exact ih4 _ _ _ _ _ _)
      | (with_reducible exact LeO.refl _)
      | (with_reducible exact LeO.none _)
      | (with_reducible refine LeO.ite ?_ ?_)
      | (with_reducible refine LeO.bind ?_ (fun _ => ?_))
      | exact ih0 _ _ _ _
      | exact ih1 _ _ _ _ _ _
      | exact ih2 _ _ _ _ _ _ _ _ _
      | exact ih3 _ _ _ _ _ _
      | exact ih4 _ _ _ _ _ _
      | exact LeO.none _
      | refine LeO.ite ?_ ?_
      | refine LeO.bind ?_ (fun _ => ?_)
    · intro y0 y1 y2 y3 y4 y5
      unfold grapnellaw16_large.l3
      repeat' first
      | (with_reducible exact ih0 _ _ _ _)
      | (with_reducible exact ih1 _ _ _ _ _ _)
      | (with_reducible exact ih2 _ _ _ _ _ _ _ _ _)
      | (with_reducible exact ih3 _ _ _ _ _ _)
      | (with_reducible exact ih4 _ _ _ _ _ _)
      | (with_reducible exact LeO.refl _)
      | (with_reducible exact LeO.none _)
      | (with_reducible refine LeO.ite ?_ ?_)
      | (with_reducible refine LeO.bind ?_ (fun _ => ?_))
      | exact ih0 _ _ _ _
      | exact ih1 _ _ _ _ _ _
      | exact ih2 _ _ _ _ _ _ _ _ _
      | exact ih3 _ _ _ _ _ _
      | exact ih4 _ _ _ _ _ _
      | exact LeO.none _
      | refine LeO.ite ?_ ?_
      | refine LeO.bind ?_ (fun _ => ?_)
theorem grapnellaw16_large.mono : ∀ a0 a1 a2 k, LeO (grapnellaw16_large.f k a0 a1 a2) (grapnellaw16_large.f (k + 1) a0 a1 a2) := by
  intro a0 a1 a2 k
  obtain ⟨ih0, ih1, ih2, ih3, ih4⟩ := grapnellaw16_large.mono_l k
  unfold grapnellaw16_large.f
  repeat' first
      | (with_reducible exact ih0 _ _ _ _)
      | (with_reducible exact ih1 _ _ _ _ _ _)
      | (with_reducible exact ih2 _ _ _ _ _ _ _ _ _)
      | (with_reducible exact ih3 _ _ _ _ _ _)
      | (with_reducible exact ih4 _ _ _ _ _ _)
      | (with_reducible exact LeO.refl _)
      | (with_reducible exact LeO.none _)
      | (with_reducible refine LeO.ite ?_ ?_)
      | (with_reducible refine LeO.bind ?_ (fun _ => ?_))
      | exact ih0 _ _ _ _
      | exact ih1 _ _ _ _ _ _
      | exact ih2 _ _ _ _ _ _ _ _ _
      | exact ih3 _ _ _ _ _ _
      | exact ih4 _ _ _ _ _ _
      | exact LeO.none _
      | refine LeO.ite ?_ ?_
      | refine LeO.bind ?_ (fun _ => ?_)
def grapnellaw16_large.T7 : Bool × List (List Nat × List Nat) := (true, [([], []), ([0], [0]), ([], []), ([1, 2], [1, 2]), ([3], [3]), ([4], [4]), ([5], [5]), ([], []), ([7], [7]), ([], []), ([8, 9], [8, 9]), ([10], [10]), ([11], [11]), ([12], [12]), ([], []), ([14], [14]), ([], []), ([15, 16], [15, 16]), ([17], [17]), ([18], [18]), ([19], [19]), ([6, 13, 20], [6, 13, 20]), ([21], [21]), ([], [])])
def grapnellaw16_large.B7 : List Nat := [0, 1, 0, 7, 15, 31, 63, 0, 128, 0, 896, 1920, 3968, 8064, 0, 16384, 0, 114688, 245760, 507904, 1032192, 2097151, 4194303, 0]
theorem grapnellaw16_large.tab7 : rtab .any (opsOf Try.f10 7) = grapnellaw16_large.T7 := by kernel_rfl
theorem grapnellaw16_large.bits7 : waitsOk grapnellaw16_large.T7.2 grapnellaw16_large.B7 = true := by kernel_rfl
set_option maxHeartbeats 8000000 in
set_option maxRecDepth 100000 in
theorem grapnellaw16_large.calls (k : Nat) (A0_0 : Option Addr) (c0_0 : Nat) (l0_0 : List (S45)) (A0_1 : Option Addr) (c0_1 : Nat) (l0_1 : List ByteArray) (A0_2 : Option Addr) (c0_2 : Nat) (l0_2 : List (S43)) (r : Bool) (w : World) (hr0_0 : Kd.C k45 w A0_0 l0_0.length l0_0) (hc0_0 : l0_0.length ≤ c0_0) (hr0_1 : Kd.C Kd.string w A0_1 l0_1.length l0_1) (hc0_1 : l0_1.length ≤ c0_1) (hr0_2 : Kd.C k43 w A0_2 l0_2.length l0_2) (hc0_2 : l0_2.length ≤ c0_2) (h : grapnellaw16_large.f k l0_0 l0_1 l0_2 = some r) :
    Calls Try.prog 10 #[.agg #[.slice A0_0 l0_0.length c0_0, .slice A0_1 l0_1.length c0_1, .slice A0_2 l0_2.length c0_2]] w fun e w' => e = .returned (.bool r) ∧ Below w.heap.size w w' := by
  have hu26 := Try.underlying26
  have HR0_0 := Aside0.mk hr0_0
  have HC0_0 := Aside0.mk hc0_0
  clear hr0_0 hc0_0
  have HR0_1 := Aside0.mk hr0_1
  have HC0_1 := Aside0.mk hc0_1
  clear hr0_1 hc0_1
  have HR0_2 := Aside0.mk hr0_2
  have HC0_2 := Aside0.mk hc0_2
  clear hr0_2 hc0_2
  have HB := Aside0.mk (Below.refl w.heap.size w)
  have H : (if (l0_2.length : Int) > 8100 then (grapnellaw16_large.j0 k true l0_0 l0_1 l0_2) else (if (l0_1.length : Int) > 1100 then (grapnellaw16_large.j0 k true l0_0 l0_1 l0_2) else (grapnellaw16_large.j0 k (decide ((l0_0.length : Int) > 300)) l0_0 l0_1 l0_2))) = some r := h
  clear h
  have HC2 := Aside0.mk H
  clear H
  go_enter Try.func10, Try.ntmps10
  go_upto_region 1 with (first | ((with_reducible refine gate_dst (N := 1) rfl ?_); (try (refine gate_guard (by rfl) ?_; dsimp only)); refine box_event ?hg (N := 1) ?hd (cs := #[.slice A0_0 l0_0.length c0_0, .slice A0_1 l0_1.length c0_1, .slice A0_2 l0_2.length c0_2]) (t := 26) ?hr ?_; (case hd => rfl); (case hg => rfl); (case hr => first | (go_simp; done) | (go_simp; rfl)); intro gb185 hg w3 hbox hb; have n0_ := Aside0.mk (below_step (by repeat (first | (with_reducible first | exact HB.out | apply below_alloc | apply pw_below_drewN | apply below_drew1) | exact HB.out)) hb); have n1_ := Aside0.mk (hbox); have n2_ := Aside0.mk ((by rw [hg]; exact (below_size (by repeat (first | (with_reducible first | exact HB.out | apply below_alloc | apply pw_below_drewN | apply below_drew1) | exact HB.out))) : w.heap.size ≤ gb185)); have n3_ := Aside0.mk ((by rw [hg]; exact (below_size (by repeat (first | (with_reducible first | exact HB.out | apply below_alloc | apply pw_below_drewN | apply below_drew1) | exact HB.out))) : w.heap.size ≤ gb185)); clear HB; have HB := n0_; have BK185 := n1_; have GW185 := n2_; have GE185 := n3_; clear n0_ n1_ n2_ n3_; clear hb hbox hg))
  (try simp only [Act.put, List.setIfInBounds_toArray, List.set_cons_zero, List.set_cons_succ])
  go_cut [24] (fun v24 wc => ∃ (kq : Nat) (x24_1 : Bool), v24 = .bool x24_1 ∧ Aside0 (grapnellaw16_large.j0 kq x24_1 l0_0 l0_1 l0_2 = some r) ∧ Aside0 (kq ≤ k) ∧ Aside0 (wc.heap[gb185]? = some (.cells #[(.slice A0_0 l0_0.length c0_0), (.slice A0_1 l0_1.length c0_1), (.slice A0_2 l0_2.length c0_2)] 26 (0, 0))) ∧ Aside0 (Below w.heap.size w wc))
  case first =>
    have H := HC2.out
    clear HC2
    by_cases c4 : (l0_2.length : Int) > 8100
    · rw [if_pos c4] at H
      have c4b0 : decide (8100 < (l0_2.length : Int)) = true := decide_eq_true c4
      have c4b1 : decide (8100 < l0_2.length) = true := decide_eq_true (by omega)
      clear c4
      (first | rw [c4b0] | (simp only [i64_w, i32_w]; rw [c4b0]) | skip)
      have H' := Aside0.mk H
      clear H
      have hcz5_0 : w3.cell? ⟨gb185, 0, none⟩ = some (.slice A0_0 l0_0.length c0_0) := (blk_cell BK185.out 0).trans rfl
      have hcz5_1 : w3.cell? ⟨gb185, 1, none⟩ = some (.slice A0_1 l0_1.length c0_1) := (blk_cell BK185.out 1).trans rfl
      have hcz5_2 : w3.cell? ⟨gb185, 2, none⟩ = some (.slice A0_2 l0_2.length c0_2) := (blk_cell BK185.out 2).trans rfl
      have hfz5_0 := blk_frozen BK185.out 0
      have hfz5_1 := blk_frozen BK185.out 1
      have hfz5_2 := blk_frozen BK185.out 2
      go_wp2
      go_meet
      case rel => exact ⟨_, (true), (by first | rfl | (simp; done) | (simp [*]; done)), H', ⟨by first | omega | exact Nat.le_refl _⟩, ⟨by (with_reducible repeat (first | refine blk_drewN ?_ _ | refine blk_drew ?_ | refine blk_alloc ?_ _)); exact BK185.out⟩, ⟨by repeat (first | (with_reducible first | exact HB.out | apply below_alloc | apply pw_below_drewN | apply below_drew1 | refine below_set ?_ GE185.out) | exact HB.out)⟩⟩
    · rw [if_neg c4] at H
      have c4b0 : decide (8100 < (l0_2.length : Int)) = false := decide_eq_false c4
      have c4b1 : decide (8100 < l0_2.length) = false := decide_eq_false (by omega)
      clear c4
      (first | rw [c4b0] | (simp only [i64_w, i32_w]; rw [c4b0]) | skip)
      by_cases c6 : (l0_1.length : Int) > 1100
      · rw [if_pos c6] at H
        have c6b0 : decide (1100 < (l0_1.length : Int)) = true := decide_eq_true c6
        have c6b1 : decide (1100 < l0_1.length) = true := decide_eq_true (by omega)
        clear c6
        have H' := Aside0.mk H
        clear H
        have hcz7_0 : w3.cell? ⟨gb185, 0, none⟩ = some (.slice A0_0 l0_0.length c0_0) := (blk_cell BK185.out 0).trans rfl
        have hcz7_1 : w3.cell? ⟨gb185, 1, none⟩ = some (.slice A0_1 l0_1.length c0_1) := (blk_cell BK185.out 1).trans rfl
        have hcz7_2 : w3.cell? ⟨gb185, 2, none⟩ = some (.slice A0_2 l0_2.length c0_2) := (blk_cell BK185.out 2).trans rfl
        have hfz7_0 := blk_frozen BK185.out 0
        have hfz7_1 := blk_frozen BK185.out 1
        have hfz7_2 := blk_frozen BK185.out 2
        go_wp2
        go_meet
        case rel => exact ⟨_, (true), (by first | rfl | (simp; done) | (simp [*]; done)), H', ⟨by first | omega | exact Nat.le_refl _⟩, ⟨by (with_reducible repeat (first | refine blk_drewN ?_ _ | refine blk_drew ?_ | refine blk_alloc ?_ _)); exact BK185.out⟩, ⟨by repeat (first | (with_reducible first | exact HB.out | apply below_alloc | apply pw_below_drewN | apply below_drew1 | refine below_set ?_ GE185.out) | exact HB.out)⟩⟩
      · rw [if_neg c6] at H
        have c6b0 : decide (1100 < (l0_1.length : Int)) = false := decide_eq_false c6
        have c6b1 : decide (1100 < l0_1.length) = false := decide_eq_false (by omega)
        clear c6
        have H' := Aside0.mk H
        clear H
        have hcz8_0 : w3.cell? ⟨gb185, 0, none⟩ = some (.slice A0_0 l0_0.length c0_0) := (blk_cell BK185.out 0).trans rfl
        have hcz8_1 : w3.cell? ⟨gb185, 1, none⟩ = some (.slice A0_1 l0_1.length c0_1) := (blk_cell BK185.out 1).trans rfl
        have hcz8_2 : w3.cell? ⟨gb185, 2, none⟩ = some (.slice A0_2 l0_2.length c0_2) := (blk_cell BK185.out 2).trans rfl
        have hfz8_0 := blk_frozen BK185.out 0
        have hfz8_1 := blk_frozen BK185.out 1
        have hfz8_2 := blk_frozen BK185.out 2
        go_wp2
        go_meet
        case rel => exact ⟨_, (decide ((l0_0.length : Int) > 300)), (by first | rfl | (simp; done) | (simp [*]; done)), H', ⟨by first | omega | exact Nat.le_refl _⟩, ⟨by (with_reducible repeat (first | refine blk_drewN ?_ _ | refine blk_drew ?_ | refine blk_alloc ?_ _)); exact BK185.out⟩, ⟨by repeat (first | (with_reducible first | exact HB.out | apply below_alloc | apply pw_below_drewN | apply below_drew1 | refine below_set ?_ GE185.out) | exact HB.out)⟩⟩
  case rest =>
    clear HC2
    try clear c1
    try clear p2
    try clear c4
    try clear c4b0
    try clear c4b1
    try clear c6
    try clear c6b0
    try clear c6b1
    try clear hcz5_0
    try clear hcz5_1
    try clear hcz5_2
    try clear hcz7_0
    try clear hcz7_1
    try clear hcz7_2
    try clear hcz8_0
    try clear hcz8_1
    try clear hcz8_2
    try clear hfz5_0
    try clear hfz5_1
    try clear hfz5_2
    try clear hfz7_0
    try clear hfz7_1
    try clear hfz7_2
    try clear hfz8_0
    try clear hfz8_1
    try clear hfz8_2
    obtain ⟨kq, x24_1, rfl, HA, HJ1, BK185, HB⟩ := hcut
    cases kq with
    | zero => exact absurd HA.out (by simp [grapnellaw16_large.j0])
    | succ kj1 =>
      have H := HA.out
      clear HA
      simp only [grapnellaw16_large.j0] at H
      by_cases c9 : x24_1 = true
      · subst c9
        have H1 : (some true) = some r := by rw [if_pos rfl] at H; exact H
        clear H
        have H := H1
        clear H1
        obtain rfl := Option.some.inj H
        go_wp2
        go_ret
        exact ⟨by first | rfl | (simp [errW_none, errW_some] <;> rfl) | (simp [*, errW_none, errW_some] <;> rfl), by repeat (first | (with_reducible first | exact HB.out | apply below_alloc | apply pw_below_drewN | apply below_drew1 | refine below_set ?_ GE185.out) | exact HB.out)⟩
      · replace c9 := Bool.eq_false_iff.mpr c9
        subst c9
        have H1 : (grapnellaw16_large.l0 kj1 0 (l0_2.length : Int) 0 l0_0 l0_1 l0_2) = some r := by rw [if_neg (show ¬ (false = true) by decide)] at H; exact H
        clear H
        have H := H1
        clear H1
        have H' := Aside0.mk H
        clear H
        have hcz10_0 : wc.cell? ⟨gb185, 0, none⟩ = some (.slice A0_0 l0_0.length c0_0) := (blk_cell BK185.out 0).trans rfl
        have hcz10_1 : wc.cell? ⟨gb185, 1, none⟩ = some (.slice A0_1 l0_1.length c0_1) := (blk_cell BK185.out 1).trans rfl
        have hcz10_2 : wc.cell? ⟨gb185, 2, none⟩ = some (.slice A0_2 l0_2.length c0_2) := (blk_cell BK185.out 2).trans rfl
        have hfz10_0 := blk_frozen BK185.out 0
        have hfz10_1 := blk_frozen BK185.out 1
        have hfz10_2 := blk_frozen BK185.out 2
        go_wp2
        go_loopg [3, 28] kj1 (fun kq v3 v28 w' => ∃ (x3_2 : Int) (x28_2 : Int), v3 = .int .i64 x3_2 ∧ v28 = .int .i64 x28_2 ∧ Aside0 (grapnellaw16_large.l0 kq x3_2 (l0_2.length : Int) x28_2 l0_0 l0_1 l0_2 = some r) ∧ Aside0 (kq ≤ kj1) ∧ Aside0 (w'.heap[gb185]? = some (.cells #[(.slice A0_0 l0_0.length c0_0), (.slice A0_1 l0_1.length c0_1), (.slice A0_2 l0_2.length c0_2)] 26 (0, 0))) ∧ Aside0 (Below w.heap.size w w'))
        case atStart => exact ⟨(0), (0), (by first | rfl | (simp; done) | (simp [*]; done)), (by first | rfl | (simp; done) | (simp [*]; done)), H', ⟨Nat.le_refl _⟩, ⟨by (with_reducible repeat (first | refine blk_drewN ?_ _ | refine blk_drew ?_ | refine blk_alloc ?_ _)); exact BK185.out⟩, ⟨by repeat (first | (with_reducible first | exact HB.out | apply below_alloc | apply pw_below_drewN | apply below_drew1 | refine below_set ?_ GE185.out) | exact HB.out)⟩⟩
        case round =>
          clear H'
          try clear c1
          try clear p2
          try clear c4
          try clear c4b0
          try clear c4b1
          try clear c6
          try clear c6b0
          try clear c6b1
          try clear c9
          try clear c10
          try clear hcz10_0
          try clear hcz10_1
          try clear hcz10_2
          try clear hcz5_0
          try clear hcz5_1
          try clear hcz5_2
          try clear hcz7_0
          try clear hcz7_1
          try clear hcz7_2
          try clear hcz8_0
          try clear hcz8_1
          try clear hcz8_2
          try clear hfz10_0
          try clear hfz10_1
          try clear hfz10_2
          try clear hfz5_0
          try clear hfz5_1
          try clear hfz5_2
          try clear hfz7_0
          try clear hfz7_1
          try clear hfz7_2
          try clear hfz8_0
          try clear hfz8_1
          try clear hfz8_2
          try clear p2
          obtain ⟨x3_2, x28_2, rfl, rfl, HA, HK2, BK185, HB⟩ := hrel
          cases gk with
          | zero => exact absurd HA.out (by simp [grapnellaw16_large.l0])
          | succ k2 =>
            have H := HA.out
            clear HA
            simp only [grapnellaw16_large.l0] at H
            by_cases c11 : x28_2 < (l0_2.length : Int)
            · rw [if_pos c11] at H
              have c11b0 : decide (x28_2 < (l0_2.length : Int)) = true := decide_eq_true c11
              clear c11
              by_cases c12 : 0 ≤ x28_2
              · rw [if_pos c12] at H
                have c12b0 : decide (0 ≤ x28_2) = true := decide_eq_true c12
                clear c12
                by_cases c13 : x28_2 < (l0_2.length : Int)
                · rw [if_pos c13] at H
                  have c13b0 : decide (x28_2 < (l0_2.length : Int)) = true := decide_eq_true c13
                  clear c13
                  obtain ⟨y189, hy189⟩ : ∃ y_ : List Int, y_ = (([(((rd_T43 l0_2 x28_2).f3).length : Int), (((rd_T43 l0_2 x28_2).f4).length : Int), (((rd_T43 l0_2 x28_2).f5).length : Int)] : List Int)) := ⟨_, rfl⟩
                  replace H : (grapnellaw16_large.l1 k2 x3_2 (l0_2.length : Int) x28_2 y189 (y189.length : Int) 0 l0_0 l0_1 l0_2) = some r := by first | (rw [hy189]; with_reducible exact H) | (have H2_ := (Option.bind_some _ _).symm.trans H; rw [hy189]; with_reducible exact H2_) | (have H2_ := (Option.bind_some _ _).symm.trans H; with_reducible exact H2_) | with_reducible exact H | (rw [hy189]; exact H) | exact H
                  have Ny189 := Aside0.mk hy189
                  clear hy189
                  have H' := Aside0.mk H
                  clear H
                  try go_wp2
                  have n0_ := Aside0.mk (blk_drew BK185.out)
                  have n1_ := Aside0.mk (below_drew1 HB.out)
                  clear BK185
                  clear HB
                  have BK185 := n0_
                  have HB := n1_
                  clear n0_ n1_
                  have p186 : 0 ≤ (x28_2 : Int) := of_decide_eq_true (by first | (with_reducible assumption) | assumption)
                  have q186 : x28_2 < (l0_2.length : Int) := of_decide_eq_true (by first | (with_reducible assumption) | assumption)
                  obtain ⟨ad186, A186_3, c186_3, A186_4, c186_4, A186_5, c186_5, e186, hx186_0, hx186_1, hx186_2, hx186_3, hx186_4, hx186_5, hl186_3, hi186_3, hl186_4, hi186_4, hl186_5, hi186_5⟩ := at_T43 HR0_2.out x28_2 p186 q186
                  have hw186_5 := hx186_5
                  have hw186_4 := hx186_4
                  have hw186_3 := hx186_3
                  have hw186_2 := hx186_2
                  have hw186_1 := hx186_1
                  have hw186_0 := hx186_0
                  cases e186
                  replace hx186_0 := (HB.out.cell (World.block_lt_of_cell? w _ hx186_0)).trans hx186_0
                  replace hx186_1 := (HB.out.cell (World.block_lt_of_cell? w _ hx186_1)).trans hx186_1
                  replace hx186_2 := (HB.out.cell (World.block_lt_of_cell? w _ hx186_2)).trans hx186_2
                  replace hx186_3 := (HB.out.cell (World.block_lt_of_cell? w _ hx186_3)).trans hx186_3
                  replace hx186_4 := (HB.out.cell (World.block_lt_of_cell? w _ hx186_4)).trans hx186_4
                  replace hx186_5 := (HB.out.cell (World.block_lt_of_cell? w _ hx186_5)).trans hx186_5
                  have HR186_3 := Aside0.mk hi186_3
                  have HC186_3 := Aside0.mk hl186_3
                  clear hi186_3 hl186_3
                  have HR186_4 := Aside0.mk hi186_4
                  have HC186_4 := Aside0.mk hl186_4
                  clear hi186_4 hl186_4
                  have HR186_5 := Aside0.mk hi186_5
                  have HC186_5 := Aside0.mk hl186_5
                  clear hi186_5 hl186_5
                  replace p186 := eq_true p186
                  replace q186 := eq_true q186
                  have p187 : 0 ≤ (x28_2 : Int) := of_decide_eq_true (by first | (with_reducible assumption) | assumption)
                  have q187 : x28_2 < (l0_2.length : Int) := of_decide_eq_true (by first | (with_reducible assumption) | assumption)
                  obtain ⟨ad187, A187_3, c187_3, A187_4, c187_4, A187_5, c187_5, e187, hx187_0, hx187_1, hx187_2, hx187_3, hx187_4, hx187_5, hl187_3, hi187_3, hl187_4, hi187_4, hl187_5, hi187_5⟩ := at_T43 HR0_2.out x28_2 p187 q187
                  have hw187_5 := hx187_5
                  have hw187_4 := hx187_4
                  have hw187_3 := hx187_3
                  have hw187_2 := hx187_2
                  have hw187_1 := hx187_1
                  have hw187_0 := hx187_0
                  obtain rfl : ad186 = ad187 := (by injection e187)
                  replace hx187_0 := (HB.out.cell (World.block_lt_of_cell? w _ hx187_0)).trans hx187_0
                  replace hx187_1 := (HB.out.cell (World.block_lt_of_cell? w _ hx187_1)).trans hx187_1
                  replace hx187_2 := (HB.out.cell (World.block_lt_of_cell? w _ hx187_2)).trans hx187_2
                  replace hx187_3 := (HB.out.cell (World.block_lt_of_cell? w _ hx187_3)).trans hx187_3
                  replace hx187_4 := (HB.out.cell (World.block_lt_of_cell? w _ hx187_4)).trans hx187_4
                  replace hx187_5 := (HB.out.cell (World.block_lt_of_cell? w _ hx187_5)).trans hx187_5
                  have HR187_3 := Aside0.mk hi187_3
                  have HC187_3 := Aside0.mk hl187_3
                  clear hi187_3 hl187_3
                  have HR187_4 := Aside0.mk hi187_4
                  have HC187_4 := Aside0.mk hl187_4
                  clear hi187_4 hl187_4
                  have HR187_5 := Aside0.mk hi187_5
                  have HC187_5 := Aside0.mk hl187_5
                  clear hi187_5 hl187_5
                  replace p187 := eq_true p187
                  replace q187 := eq_true q187
                  have ea_ := Option.some.inj (hx186_3.symm.trans hx187_3)
                  injection ea_ with ea_ en_ ec_
                  subst ea_
                  subst ec_
                  clear en_
                  have ea_ := Option.some.inj (hx186_4.symm.trans hx187_4)
                  injection ea_ with ea_ en_ ec_
                  subst ea_
                  subst ec_
                  clear en_
                  have ea_ := Option.some.inj (hx186_5.symm.trans hx187_5)
                  injection ea_ with ea_ en_ ec_
                  subst ea_
                  subst ec_
                  clear en_
                  have p188 : 0 ≤ (x28_2 : Int) := of_decide_eq_true (by first | (with_reducible assumption) | assumption)
                  have q188 : x28_2 < (l0_2.length : Int) := of_decide_eq_true (by first | (with_reducible assumption) | assumption)
                  obtain ⟨ad188, A188_3, c188_3, A188_4, c188_4, A188_5, c188_5, e188, hx188_0, hx188_1, hx188_2, hx188_3, hx188_4, hx188_5, hl188_3, hi188_3, hl188_4, hi188_4, hl188_5, hi188_5⟩ := at_T43 HR0_2.out x28_2 p188 q188
                  have hw188_5 := hx188_5
                  have hw188_4 := hx188_4
                  have hw188_3 := hx188_3
                  have hw188_2 := hx188_2
                  have hw188_1 := hx188_1
                  have hw188_0 := hx188_0
                  obtain rfl : ad186 = ad188 := (by injection e188)
                  replace hx188_0 := (HB.out.cell (World.block_lt_of_cell? w _ hx188_0)).trans hx188_0
                  replace hx188_1 := (HB.out.cell (World.block_lt_of_cell? w _ hx188_1)).trans hx188_1
                  replace hx188_2 := (HB.out.cell (World.block_lt_of_cell? w _ hx188_2)).trans hx188_2
                  replace hx188_3 := (HB.out.cell (World.block_lt_of_cell? w _ hx188_3)).trans hx188_3
                  replace hx188_4 := (HB.out.cell (World.block_lt_of_cell? w _ hx188_4)).trans hx188_4
                  replace hx188_5 := (HB.out.cell (World.block_lt_of_cell? w _ hx188_5)).trans hx188_5
                  have HR188_3 := Aside0.mk hi188_3
                  have HC188_3 := Aside0.mk hl188_3
                  clear hi188_3 hl188_3
                  have HR188_4 := Aside0.mk hi188_4
                  have HC188_4 := Aside0.mk hl188_4
                  clear hi188_4 hl188_4
                  have HR188_5 := Aside0.mk hi188_5
                  have HC188_5 := Aside0.mk hl188_5
                  clear hi188_5 hl188_5
                  replace p188 := eq_true p188
                  replace q188 := eq_true q188
                  have ea_ := Option.some.inj (hx186_3.symm.trans hx188_3)
                  injection ea_ with ea_ en_ ec_
                  subst ea_
                  subst ec_
                  clear en_
                  have ea_ := Option.some.inj (hx186_4.symm.trans hx188_4)
                  injection ea_ with ea_ en_ ec_
                  subst ea_
                  subst ec_
                  clear en_
                  have ea_ := Option.some.inj (hx186_5.symm.trans hx188_5)
                  injection ea_ with ea_ en_ ec_
                  subst ea_
                  subst ec_
                  clear en_
                  refine start_ (n := 24) (S := fun w' => w'.cell? ⟨gb185, 0, none⟩ = some (.slice A0_0 l0_0.length c0_0) ∧ w'.cell? ⟨gb185, 1, none⟩ = some (.slice A0_1 l0_1.length c0_1) ∧ w'.cell? ⟨gb185, 2, none⟩ = some (.slice (some ad186) l0_2.length c0_2) ∧ w'.cell? (ad186.add ((x28_2).toNat * 6)) = some (.int .i64 ((rd_T43 l0_2 x28_2).f0)) ∧ w'.cell? ⟨(ad186.add ((x28_2).toNat * 6)).block, (ad186.add ((x28_2).toNat * 6)).off + 1, none⟩ = some (.int .i64 ((rd_T43 l0_2 x28_2).f1)) ∧ w'.cell? ⟨(ad186.add ((x28_2).toNat * 6)).block, (ad186.add ((x28_2).toNat * 6)).off + 2, none⟩ = some (.int .i64 ((rd_T43 l0_2 x28_2).f2)) ∧ w'.cell? ⟨(ad186.add ((x28_2).toNat * 6)).block, (ad186.add ((x28_2).toNat * 6)).off + 3, none⟩ = some (.slice A186_3 ((rd_T43 l0_2 x28_2).f3).length c186_3) ∧ w'.cell? ⟨(ad186.add ((x28_2).toNat * 6)).block, (ad186.add ((x28_2).toNat * 6)).off + 4, none⟩ = some (.slice A186_4 ((rd_T43 l0_2 x28_2).f4).length c186_4) ∧ w'.cell? ⟨(ad186.add ((x28_2).toNat * 6)).block, (ad186.add ((x28_2).toNat * 6)).off + 5, none⟩ = some (.slice A186_5 ((rd_T43 l0_2 x28_2).f5).length c186_5) ∧ w'.cell? (ad186.add ((x28_2).toNat * 6)) = some (.int .i64 ((rd_T43 l0_2 x28_2).f0)) ∧ w'.cell? ⟨(ad186.add ((x28_2).toNat * 6)).block, (ad186.add ((x28_2).toNat * 6)).off + 1, none⟩ = some (.int .i64 ((rd_T43 l0_2 x28_2).f1)) ∧ w'.cell? ⟨(ad186.add ((x28_2).toNat * 6)).block, (ad186.add ((x28_2).toNat * 6)).off + 2, none⟩ = some (.int .i64 ((rd_T43 l0_2 x28_2).f2)) ∧ w'.cell? ⟨(ad186.add ((x28_2).toNat * 6)).block, (ad186.add ((x28_2).toNat * 6)).off + 3, none⟩ = some (.slice A186_3 ((rd_T43 l0_2 x28_2).f3).length c186_3) ∧ w'.cell? ⟨(ad186.add ((x28_2).toNat * 6)).block, (ad186.add ((x28_2).toNat * 6)).off + 4, none⟩ = some (.slice A186_4 ((rd_T43 l0_2 x28_2).f4).length c186_4) ∧ w'.cell? ⟨(ad186.add ((x28_2).toNat * 6)).block, (ad186.add ((x28_2).toNat * 6)).off + 5, none⟩ = some (.slice A186_5 ((rd_T43 l0_2 x28_2).f5).length c186_5) ∧ w'.cell? (ad186.add ((x28_2).toNat * 6)) = some (.int .i64 ((rd_T43 l0_2 x28_2).f0)) ∧ w'.cell? ⟨(ad186.add ((x28_2).toNat * 6)).block, (ad186.add ((x28_2).toNat * 6)).off + 1, none⟩ = some (.int .i64 ((rd_T43 l0_2 x28_2).f1)) ∧ w'.cell? ⟨(ad186.add ((x28_2).toNat * 6)).block, (ad186.add ((x28_2).toNat * 6)).off + 2, none⟩ = some (.int .i64 ((rd_T43 l0_2 x28_2).f2)) ∧ w'.cell? ⟨(ad186.add ((x28_2).toNat * 6)).block, (ad186.add ((x28_2).toNat * 6)).off + 3, none⟩ = some (.slice A186_3 ((rd_T43 l0_2 x28_2).f3).length c186_3) ∧ w'.cell? ⟨(ad186.add ((x28_2).toNat * 6)).block, (ad186.add ((x28_2).toNat * 6)).off + 4, none⟩ = some (.slice A186_4 ((rd_T43 l0_2 x28_2).f4).length c186_4) ∧ w'.cell? ⟨(ad186.add ((x28_2).toNat * 6)).block, (ad186.add ((x28_2).toNat * 6)).off + 5, none⟩ = some (.slice A186_5 ((rd_T43 l0_2 x28_2).f5).length c186_5)) (ds := []) #[false, false, false, false, false, false, false, false, false, false, false, false, false, false, false, false, false, false, false, false, false, false, false, false] (by kernel_rfl) rfl rfl ⟨(blk_cell BK185.out 0).trans rfl, (blk_cell BK185.out 1).trans rfl, (blk_cell BK185.out 2).trans rfl, ((HB.out.cell (World.block_lt_of_cell? w _ hw186_0)).trans hw186_0), ((HB.out.cell (World.block_lt_of_cell? w _ hw186_1)).trans hw186_1), ((HB.out.cell (World.block_lt_of_cell? w _ hw186_2)).trans hw186_2), ((HB.out.cell (World.block_lt_of_cell? w _ hw186_3)).trans hw186_3), ((HB.out.cell (World.block_lt_of_cell? w _ hw186_4)).trans hw186_4), ((HB.out.cell (World.block_lt_of_cell? w _ hw186_5)).trans hw186_5), ((HB.out.cell (World.block_lt_of_cell? w _ hw187_0)).trans hw187_0), ((HB.out.cell (World.block_lt_of_cell? w _ hw187_1)).trans hw187_1), ((HB.out.cell (World.block_lt_of_cell? w _ hw187_2)).trans hw187_2), ((HB.out.cell (World.block_lt_of_cell? w _ hw187_3)).trans hw187_3), ((HB.out.cell (World.block_lt_of_cell? w _ hw187_4)).trans hw187_4), ((HB.out.cell (World.block_lt_of_cell? w _ hw187_5)).trans hw187_5), ((HB.out.cell (World.block_lt_of_cell? w _ hw188_0)).trans hw188_0), ((HB.out.cell (World.block_lt_of_cell? w _ hw188_1)).trans hw188_1), ((HB.out.cell (World.block_lt_of_cell? w _ hw188_2)).trans hw188_2), ((HB.out.cell (World.block_lt_of_cell? w _ hw188_3)).trans hw188_3), ((HB.out.cell (World.block_lt_of_cell? w _ hw188_4)).trans hw188_4), ((HB.out.cell (World.block_lt_of_cell? w _ hw188_5)).trans hw188_5)⟩ (fun hHeld => ?_); refine with_tabW grapnellaw16_large.tab7 grapnellaw16_large.bits7 (fun HT_ HW_ => ?_)
                  generalize wr.drew = w14 at BK185 HB HR186_3 HR186_4 HR186_5 HR187_3 HR187_4 HR187_5 HR188_3 HR188_4 HR188_5 hx186_0 hx186_1 hx186_2 hx186_3 hx186_4 hx186_5 hx187_0 hx187_1 hx187_2 hx187_3 hx187_4 hx187_5 hx188_0 hx188_1 hx188_2 hx188_3 hx188_4 hx188_5 hHeld ⊢
                  refine pure_ (i := 0) (N := some 31) (v := ?_) (a' := ?_) #[true, false, false, false, false, false, false, false, false, false, false, false, false, false, false, false, false, false, false, false, false, false, false, false] rfl rfl (any_of HT_.out (by kernel_rfl)) (fun _ _ _ h => h) (Or.inl ⟨by rfl, ?_⟩) ?_ ?_
                  rotate_left
                  · intro w'
                    go_simp
                    with_reducible rfl
                  rotate_left
                  · simp only [Act.put, List.setIfInBounds_toArray, List.set_cons_zero, List.set_cons_succ, i64_w, i32_w]
                    rfl
                  refine pure_ (i := 2) (N := some 33) (v := ?_) (a' := ?_) #[true, false, true, false, false, false, false, false, false, false, false, false, false, false, false, false, false, false, false, false, false, false, false, false] rfl rfl (any_of HT_.out (by kernel_rfl)) (fun _ _ _ h => h) (Or.inl ⟨by rfl, ?_⟩) ?_ ?_
                  rotate_left
                  · intro w'
                    go_simp
                    with_reducible rfl
                  rotate_left
                  · simp only [Act.put, List.setIfInBounds_toArray, List.set_cons_zero, List.set_cons_succ, i64_w, i32_w]
                    rfl
                  refine pure_ (i := 7) (N := some 38) (v := ?_) (a' := ?_) #[true, false, true, false, false, false, false, true, false, false, false, false, false, false, false, false, false, false, false, false, false, false, false, false] rfl rfl (any_of HT_.out (by kernel_rfl)) (fun _ _ _ h => h) (Or.inl ⟨by rfl, ?_⟩) ?_ ?_
                  rotate_left
                  · intro w'
                    go_simp
                    with_reducible rfl
                  rotate_left
                  · simp only [Act.put, List.setIfInBounds_toArray, List.set_cons_zero, List.set_cons_succ, i64_w, i32_w]
                    rfl
                  refine pure_ (i := 9) (N := some 40) (v := ?_) (a' := ?_) #[true, false, true, false, false, false, false, true, false, true, false, false, false, false, false, false, false, false, false, false, false, false, false, false] rfl rfl (any_of HT_.out (by kernel_rfl)) (fun _ _ _ h => h) (Or.inl ⟨by rfl, ?_⟩) ?_ ?_
                  rotate_left
                  · intro w'
                    go_simp
                    with_reducible rfl
                  rotate_left
                  · simp only [Act.put, List.setIfInBounds_toArray, List.set_cons_zero, List.set_cons_succ, i64_w, i32_w]
                    rfl
                  refine pure_ (i := 14) (N := some 45) (v := ?_) (a' := ?_) #[true, false, true, false, false, false, false, true, false, true, false, false, false, false, true, false, false, false, false, false, false, false, false, false] rfl rfl (any_of HT_.out (by kernel_rfl)) (fun _ _ _ h => h) (Or.inl ⟨by rfl, ?_⟩) ?_ ?_
                  rotate_left
                  · intro w'
                    go_simp
                    with_reducible rfl
                  rotate_left
                  · simp only [Act.put, List.setIfInBounds_toArray, List.set_cons_zero, List.set_cons_succ, i64_w, i32_w]
                    rfl
                  refine pure_ (i := 16) (N := some 47) (v := ?_) (a' := ?_) #[true, false, true, false, false, false, false, true, false, true, false, false, false, false, true, false, true, false, false, false, false, false, false, false] rfl rfl (any_of HT_.out (by kernel_rfl)) (fun _ _ _ h => h) (Or.inl ⟨by rfl, ?_⟩) ?_ ?_
                  rotate_left
                  · intro w'
                    go_simp
                    with_reducible rfl
                  rotate_left
                  · simp only [Act.put, List.setIfInBounds_toArray, List.set_cons_zero, List.set_cons_succ, i64_w, i32_w]
                    rfl
                  refine pure_ (i := 23) (N := some 54) (v := ?_) (a' := ?_) #[true, false, true, false, false, false, false, true, false, true, false, false, false, false, true, false, true, false, false, false, false, false, false, true] rfl rfl (any_of HT_.out (by kernel_rfl)) (fun _ _ _ h => h) (Or.inl ⟨by rfl, ?_⟩) ?_ ?_
                  rotate_left
                  · intro w'
                    go_simp
                    with_reducible rfl
                  rotate_left
                  · simp only [Act.put, List.setIfInBounds_toArray, List.set_cons_zero, List.set_cons_succ, i64_w, i32_w]
                    rfl
                  refine take_ (i := 1) (N := some 32) (v := ?_) (a' := ?_) #[true, true, true, false, false, false, false, true, false, true, false, false, false, false, true, false, true, false, false, false, false, false, false, true] rfl rfl (take_ofW HT_.out HW_.out (by kernel_rfl)) (fun _ _ _ h => h) (Or.inl ⟨by rfl, ?_⟩) hHeld ?_ ?_
                  rotate_left
                  · rintro w' ⟨s0, s1, s2, s3, s4, s5, s6, s7, s8, s9, s10, s11, s12, s13, s14, s15, s16, s17, s18, s19, s20⟩
                    go_simp
                    with_reducible rfl
                  rotate_left
                  · simp only [Act.put, List.setIfInBounds_toArray, List.set_cons_zero, List.set_cons_succ, i64_w, i32_w]
                    rfl
                  refine pure_ (i := 3) (N := some 34) (v := ?_) (a' := ?_) #[true, true, true, true, false, false, false, true, false, true, false, false, false, false, true, false, true, false, false, false, false, false, false, true] rfl rfl (any_of HT_.out (by kernel_rfl)) (fun _ _ _ h => h) (Or.inl ⟨by rfl, ?_⟩) ?_ ?_
                  rotate_left
                  · intro w'
                    go_simp
                    with_reducible rfl
                  rotate_left
                  · simp only [Act.put, List.setIfInBounds_toArray, List.set_cons_zero, List.set_cons_succ, i64_w, i32_w]
                    rfl
                  refine pure_ (i := 4) (N := some 35) (v := ?_) (a' := ?_) #[true, true, true, true, true, false, false, true, false, true, false, false, false, false, true, false, true, false, false, false, false, false, false, true] rfl rfl (any_of HT_.out (by kernel_rfl)) (fun _ _ _ h => h) (Or.inl ⟨by rfl, ?_⟩) ?_ ?_
                  rotate_left
                  · intro w'
                    go_simp
                    with_reducible rfl
                  rotate_left
                  · simp only [Act.put, List.setIfInBounds_toArray, List.set_cons_zero, List.set_cons_succ, i64_w, i32_w]
                    rfl
                  refine take_ (i := 5) (N := some 36) (v := ?_) (a' := ?_) #[true, true, true, true, true, true, false, true, false, true, false, false, false, false, true, false, true, false, false, false, false, false, false, true] rfl rfl (take_ofW HT_.out HW_.out (by kernel_rfl)) (fun _ _ _ h => h) (Or.inl ⟨by rfl, ?_⟩) hHeld ?_ ?_
                  rotate_left
                  · rintro w' ⟨s0, s1, s2, s3, s4, s5, s6, s7, s8, s9, s10, s11, s12, s13, s14, s15, s16, s17, s18, s19, s20⟩
                    go_simp
                    with_reducible rfl
                  rotate_left
                  · simp only [Act.put, List.setIfInBounds_toArray, List.set_cons_zero, List.set_cons_succ, i64_w, i32_w]
                    rfl
                  refine pure_ (i := 6) (N := some 37) (v := ?_) (a' := ?_) #[true, true, true, true, true, true, true, true, false, true, false, false, false, false, true, false, true, false, false, false, false, false, false, true] rfl rfl (any_of HT_.out (by kernel_rfl)) (fun _ _ _ h => h) (Or.inl ⟨by rfl, ?_⟩) ?_ ?_
                  rotate_left
                  · intro w'
                    go_simp
                    with_reducible rfl
                  rotate_left
                  · simp only [Act.put, List.setIfInBounds_toArray, List.set_cons_zero, List.set_cons_succ, i64_w, i32_w]
                    rfl
                  refine take_ (i := 8) (N := some 39) (v := ?_) (a' := ?_) #[true, true, true, true, true, true, true, true, true, true, false, false, false, false, true, false, true, false, false, false, false, false, false, true] rfl rfl (take_ofW HT_.out HW_.out (by kernel_rfl)) (fun _ _ _ h => h) (Or.inl ⟨by rfl, ?_⟩) hHeld ?_ ?_
                  rotate_left
                  · rintro w' ⟨s0, s1, s2, s3, s4, s5, s6, s7, s8, s9, s10, s11, s12, s13, s14, s15, s16, s17, s18, s19, s20⟩
                    go_simp
                    with_reducible rfl
                  rotate_left
                  · simp only [Act.put, List.setIfInBounds_toArray, List.set_cons_zero, List.set_cons_succ, i64_w, i32_w]
                    rfl
                  refine pure_ (i := 10) (N := some 41) (v := ?_) (a' := ?_) #[true, true, true, true, true, true, true, true, true, true, true, false, false, false, true, false, true, false, false, false, false, false, false, true] rfl rfl (any_of HT_.out (by kernel_rfl)) (fun _ _ _ h => h) (Or.inl ⟨by rfl, ?_⟩) ?_ ?_
                  rotate_left
                  · intro w'
                    go_simp
                    with_reducible rfl
                  rotate_left
                  · simp only [Act.put, List.setIfInBounds_toArray, List.set_cons_zero, List.set_cons_succ, i64_w, i32_w]
                    rfl
                  refine pure_ (i := 11) (N := some 42) (v := ?_) (a' := ?_) #[true, true, true, true, true, true, true, true, true, true, true, true, false, false, true, false, true, false, false, false, false, false, false, true] rfl rfl (any_of HT_.out (by kernel_rfl)) (fun _ _ _ h => h) (Or.inl ⟨by rfl, ?_⟩) ?_ ?_
                  rotate_left
                  · intro w'
                    go_simp
                    with_reducible rfl
                  rotate_left
                  · simp only [Act.put, List.setIfInBounds_toArray, List.set_cons_zero, List.set_cons_succ, i64_w, i32_w]
                    rfl
                  refine take_ (i := 12) (N := some 43) (v := ?_) (a' := ?_) #[true, true, true, true, true, true, true, true, true, true, true, true, true, false, true, false, true, false, false, false, false, false, false, true] rfl rfl (take_ofW HT_.out HW_.out (by kernel_rfl)) (fun _ _ _ h => h) (Or.inl ⟨by rfl, ?_⟩) hHeld ?_ ?_
                  rotate_left
                  · rintro w' ⟨s0, s1, s2, s3, s4, s5, s6, s7, s8, s9, s10, s11, s12, s13, s14, s15, s16, s17, s18, s19, s20⟩
                    go_simp
                    with_reducible rfl
                  rotate_left
                  · simp only [Act.put, List.setIfInBounds_toArray, List.set_cons_zero, List.set_cons_succ, i64_w, i32_w]
                    rfl
                  refine pure_ (i := 13) (N := some 44) (v := ?_) (a' := ?_) #[true, true, true, true, true, true, true, true, true, true, true, true, true, true, true, false, true, false, false, false, false, false, false, true] rfl rfl (any_of HT_.out (by kernel_rfl)) (fun _ _ _ h => h) (Or.inl ⟨by rfl, ?_⟩) ?_ ?_
                  rotate_left
                  · intro w'
                    go_simp
                    with_reducible rfl
                  rotate_left
                  · simp only [Act.put, List.setIfInBounds_toArray, List.set_cons_zero, List.set_cons_succ, i64_w, i32_w]
                    rfl
                  refine take_ (i := 15) (N := some 46) (v := ?_) (a' := ?_) #[true, true, true, true, true, true, true, true, true, true, true, true, true, true, true, true, true, false, false, false, false, false, false, true] rfl rfl (take_ofW HT_.out HW_.out (by kernel_rfl)) (fun _ _ _ h => h) (Or.inl ⟨by rfl, ?_⟩) hHeld ?_ ?_
                  rotate_left
                  · rintro w' ⟨s0, s1, s2, s3, s4, s5, s6, s7, s8, s9, s10, s11, s12, s13, s14, s15, s16, s17, s18, s19, s20⟩
                    go_simp
                    with_reducible rfl
                  rotate_left
                  · simp only [Act.put, List.setIfInBounds_toArray, List.set_cons_zero, List.set_cons_succ, i64_w, i32_w]
                    rfl
                  refine pure_ (i := 17) (N := some 48) (v := ?_) (a' := ?_) #[true, true, true, true, true, true, true, true, true, true, true, true, true, true, true, true, true, true, false, false, false, false, false, true] rfl rfl (any_of HT_.out (by kernel_rfl)) (fun _ _ _ h => h) (Or.inl ⟨by rfl, ?_⟩) ?_ ?_
                  rotate_left
                  · intro w'
                    go_simp
                    with_reducible rfl
                  rotate_left
                  · simp only [Act.put, List.setIfInBounds_toArray, List.set_cons_zero, List.set_cons_succ, i64_w, i32_w]
                    rfl
                  refine pure_ (i := 18) (N := some 49) (v := ?_) (a' := ?_) #[true, true, true, true, true, true, true, true, true, true, true, true, true, true, true, true, true, true, true, false, false, false, false, true] rfl rfl (any_of HT_.out (by kernel_rfl)) (fun _ _ _ h => h) (Or.inl ⟨by rfl, ?_⟩) ?_ ?_
                  rotate_left
                  · intro w'
                    go_simp
                    with_reducible rfl
                  rotate_left
                  · simp only [Act.put, List.setIfInBounds_toArray, List.set_cons_zero, List.set_cons_succ, i64_w, i32_w]
                    rfl
                  refine take_ (i := 19) (N := some 50) (v := ?_) (a' := ?_) #[true, true, true, true, true, true, true, true, true, true, true, true, true, true, true, true, true, true, true, true, false, false, false, true] rfl rfl (take_ofW HT_.out HW_.out (by kernel_rfl)) (fun _ _ _ h => h) (Or.inl ⟨by rfl, ?_⟩) hHeld ?_ ?_
                  rotate_left
                  · rintro w' ⟨s0, s1, s2, s3, s4, s5, s6, s7, s8, s9, s10, s11, s12, s13, s14, s15, s16, s17, s18, s19, s20⟩
                    go_simp
                    with_reducible rfl
                  rotate_left
                  · simp only [Act.put, List.setIfInBounds_toArray, List.set_cons_zero, List.set_cons_succ, i64_w, i32_w]
                    rfl
                  refine pure_ (i := 20) (N := some 51) (v := ?_) (a' := ?_) #[true, true, true, true, true, true, true, true, true, true, true, true, true, true, true, true, true, true, true, true, true, false, false, true] rfl rfl (any_of HT_.out (by kernel_rfl)) (fun _ _ _ h => h) (Or.inl ⟨by rfl, ?_⟩) ?_ ?_
                  rotate_left
                  · intro w'
                    go_simp
                    with_reducible rfl
                  rotate_left
                  · simp only [Act.put, List.setIfInBounds_toArray, List.set_cons_zero, List.set_cons_succ, i64_w, i32_w]
                    rfl
                  refine one_ (i := 21) (N := some 52) #[true, true, true, true, true, true, true, true, true, true, true, true, true, true, true, true, true, true, true, true, true, true, false, true] rfl rfl (one_of HT_.out (by kernel_rfl)) (by decide) (fun K hK => ?_)
                  refine Kd.R_lit_step (Kd.int .i64) _ 3 ?hg (N := 52) ?hd (xs := ([(((rd_T43 l0_2 x28_2).f3).length : Int), (((rd_T43 l0_2 x28_2).f4).length : Int), (((rd_T43 l0_2 x28_2).f5).length : Int)] : List Int)) (inner := [.int .i64 (((rd_T43 l0_2 x28_2).f3).length : Int), .int .i64 (((rd_T43 l0_2 x28_2).f4).length : Int), .int .i64 (((rd_T43 l0_2 x28_2).f5).length : Int)]) (ok := fun _ => True) (okp := fun _ => True) ?hr ?hp (fun _ hk => hk) trivial (Below.refl _ _) (Nat.le_refl _) (by simp) ?_; (case hd => rfl); (case hg => rfl); (case hr => first | (go_simp; done) | (go_simp; rfl)); (case hp => exact (Reps.one (show Kd.M (Kd.int .i64) _ _ _ (((rd_T43 l0_2 x28_2).f3).length : Int) [.int .i64 (((rd_T43 l0_2 x28_2).f3).length : Int)] from rfl) (Reps.one (show Kd.M (Kd.int .i64) _ _ _ (((rd_T43 l0_2 x28_2).f4).length : Int) [.int .i64 (((rd_T43 l0_2 x28_2).f4).length : Int)] from rfl) (Reps.one (show Kd.M (Kd.int .i64) _ _ _ (((rd_T43 l0_2 x28_2).f5).length : Int) [.int .i64 (((rd_T43 l0_2 x28_2).f5).length : Int)] from rfl) (Reps.none _ _)))))
                  intro v190 w15 ho16 hb hg_ hnew_
                  clear hg_ hnew_
                  (first | rw [← Ny189.out] at ho16 | (simp only [Int.reduceToNat] at ho16; rw [← Ny189.out] at ho16))
                  have n0_ := Aside0.mk (Kd.R_lower ho16 (below_size (by repeat (first | (with_reducible first | exact HB.out | apply below_alloc | apply pw_below_drewN | apply below_drew1 | refine below_set ?_ GE185.out) | exact HB.out))))
                  have n1_ := Aside0.mk (blk_below (g := gb185) (o := .cells #[.slice A0_0 l0_0.length c0_0, .slice A0_1 l0_1.length c0_1, .slice (some ad186) l0_2.length c0_2] 26 (0, 0)) (by (with_reducible repeat (first | refine blk_drewN ?_ _ | refine blk_drew ?_ | refine blk_alloc ?_ _)); exact BK185.out) hb)
                  have n2_ := Aside0.mk (below_step (by repeat (first | (with_reducible first | exact HB.out | apply below_alloc | apply pw_below_drewN | apply below_drew1 | refine below_set ?_ GE185.out) | exact HB.out)) hb)
                  clear BK185
                  clear HB
                  have HO191 := n0_
                  have BK185 := n1_
                  have HB := n2_
                  clear n0_ n1_ n2_
                  clear hb ho16
                  obtain ⟨Ao17, co17, eo17⟩ := Kd.R_slice HO191.out
                  (first | subst eo17 | (injection eo17 with f1_ f2_ f3_; have f4_ := f1_.symm; have f5_ := f3_.symm; clear f1_ f2_ f3_; subst f4_; subst f5_))
                  refine hK.out _ _ ⟨(blk_cell BK185.out 0).trans rfl, (blk_cell BK185.out 1).trans rfl, (blk_cell BK185.out 2).trans rfl, ((HB.out.cell (World.block_lt_of_cell? w _ hw186_0)).trans hw186_0), ((HB.out.cell (World.block_lt_of_cell? w _ hw186_1)).trans hw186_1), ((HB.out.cell (World.block_lt_of_cell? w _ hw186_2)).trans hw186_2), ((HB.out.cell (World.block_lt_of_cell? w _ hw186_3)).trans hw186_3), ((HB.out.cell (World.block_lt_of_cell? w _ hw186_4)).trans hw186_4), ((HB.out.cell (World.block_lt_of_cell? w _ hw186_5)).trans hw186_5), ((HB.out.cell (World.block_lt_of_cell? w _ hw187_0)).trans hw187_0), ((HB.out.cell (World.block_lt_of_cell? w _ hw187_1)).trans hw187_1), ((HB.out.cell (World.block_lt_of_cell? w _ hw187_2)).trans hw187_2), ((HB.out.cell (World.block_lt_of_cell? w _ hw187_3)).trans hw187_3), ((HB.out.cell (World.block_lt_of_cell? w _ hw187_4)).trans hw187_4), ((HB.out.cell (World.block_lt_of_cell? w _ hw187_5)).trans hw187_5), ((HB.out.cell (World.block_lt_of_cell? w _ hw188_0)).trans hw188_0), ((HB.out.cell (World.block_lt_of_cell? w _ hw188_1)).trans hw188_1), ((HB.out.cell (World.block_lt_of_cell? w _ hw188_2)).trans hw188_2), ((HB.out.cell (World.block_lt_of_cell? w _ hw188_3)).trans hw188_3), ((HB.out.cell (World.block_lt_of_cell? w _ hw188_4)).trans hw188_4), ((HB.out.cell (World.block_lt_of_cell? w _ hw188_5)).trans hw188_5)⟩ (fun hHeld => ?_)
                  clear hK K
                  refine norm_ (a' := ?_) ?_ ?_
                  rotate_left
                  · show Act.put _ (some 52) _ = _
                    simp only [Act.put, List.setIfInBounds_toArray, List.set_cons_zero, List.set_cons_succ, i64_w, i32_w]
                    rfl
                  refine pure_ (i := 22) (N := some 53) (v := ?_) (a' := ?_) #[true, true, true, true, true, true, true, true, true, true, true, true, true, true, true, true, true, true, true, true, true, true, true, true] rfl rfl (any_of HT_.out (by kernel_rfl)) (fun _ _ _ h => h) (Or.inl ⟨by rfl, ?_⟩) ?_ ?_
                  rotate_left
                  · intro w'
                    go_simp
                    with_reducible rfl
                  rotate_left
                  · simp only [Act.put, List.setIfInBounds_toArray, List.set_cons_zero, List.set_cons_succ, i64_w, i32_w]
                    rfl
                  refine done_ (done_of HT_.out (by kernel_rfl)) ?_
                  try go_wp2
                  go_loopg [3, 54] k2 (fun kq v3 v54 w' => ∃ (x3_3 : Int) (x54_3 : Int), v3 = .int .i64 x3_3 ∧ v54 = .int .i64 x54_3 ∧ Aside0 (grapnellaw16_large.l1 kq x3_3 (l0_2.length : Int) x28_2 y189 (y189.length : Int) x54_3 l0_0 l0_1 l0_2 = some r) ∧ Aside0 (kq ≤ k2) ∧ Aside0 (Kd.R (Kd.int .i64) 3 w' w.heap.size (fun _ => True) (.slice Ao17 y189.length co17) y189) ∧ Aside0 (w'.heap[gb185]? = some (.cells #[(.slice A0_0 l0_0.length c0_0), (.slice A0_1 l0_1.length c0_1), (.slice (some ad186) l0_2.length c0_2)] 26 (0, 0))) ∧ Aside0 (Below w.heap.size w w'))
                  case atStart => exact ⟨(x3_2), (0), (by first | rfl | (simp; done) | (simp [*]; done)), (by first | rfl | (simp; done) | (simp [*]; done)), H', ⟨Nat.le_refl _⟩, ⟨by (with_reducible repeat (first | apply Kd.R_alloc | apply Kd.R_drewN | apply Kd.R_drew)); exact HO191.out⟩, ⟨by (with_reducible repeat (first | refine blk_drewN ?_ _ | refine blk_drew ?_ | refine blk_alloc ?_ _)); exact BK185.out⟩, ⟨by repeat (first | (with_reducible first | exact HB.out | apply below_alloc | apply pw_below_drewN | apply below_drew1 | refine below_set ?_ GE185.out) | exact HB.out)⟩⟩
                  case round =>
                    clear H'
                    try clear c1
                    try clear p1
                    try clear q1
                    try clear hx1
                    try clear p2
                    try clear c4
                    try clear c4b0
                    try clear c4b1
                    try clear c6
                    try clear c6b0
                    try clear c6b1
                    try clear c9
                    try clear c10
                    try clear c11
                    try clear c11b0
                    try clear c12
                    try clear c12b0
                    try clear c13
                    try clear c13b0
                    try clear hcz10_0
                    try clear hcz10_1
                    try clear hcz10_2
                    try clear hcz5_0
                    try clear hcz5_1
                    try clear hcz5_2
                    try clear hcz7_0
                    try clear hcz7_1
                    try clear hcz7_2
                    try clear hcz8_0
                    try clear hcz8_1
                    try clear hcz8_2
                    try clear hfz10_0
                    try clear hfz10_1
                    try clear hfz10_2
                    try clear hfz5_0
                    try clear hfz5_1
                    try clear hfz5_2
                    try clear hfz7_0
                    try clear hfz7_1
                    try clear hfz7_2
                    try clear hfz8_0
                    try clear hfz8_1
                    try clear hfz8_2
                    try clear hx186_0
                    try clear hx186_1
                    try clear hx186_2
                    try clear hx186_3
                    try clear hx186_4
                    try clear hx186_5
                    try clear hx187_0
                    try clear hx187_1
                    try clear hx187_2
                    try clear hx187_3
                    try clear hx187_4
                    try clear hx187_5
                    try clear hx188_0
                    try clear hx188_1
                    try clear hx188_2
                    try clear hx188_3
                    try clear hx188_4
                    try clear hx188_5
                    try clear p186
                    try clear p187
                    try clear p188
                    try clear p2
                    try clear q186
                    try clear q187
                    try clear q188
                    obtain ⟨x3_3, x54_3, rfl, rfl, HA, HK3, HO_52, BK185, HB⟩ := hrel
                    cases gk with
                    | zero => exact absurd HA.out (by simp [grapnellaw16_large.l1])
                    | succ k3 =>
                      have H := HA.out
                      clear HA
                      simp only [grapnellaw16_large.l1] at H
                      by_cases c18 : x54_3 < (y189.length : Int)
                      · rw [if_pos c18] at H
                        have c18b0 : decide (x54_3 < (y189.length : Int)) = true := decide_eq_true c18
                        clear c18
                        by_cases c19 : 0 ≤ x54_3
                        · rw [if_pos c19] at H
                          have c19b0 : decide (0 ≤ x54_3) = true := decide_eq_true c19
                          clear c19
                          by_cases c20 : x54_3 < (y189.length : Int)
                          · rw [if_pos c20] at H
                            have c20b0 : decide (x54_3 < (y189.length : Int)) = true := decide_eq_true c20
                            clear c20
                            obtain ⟨ji21, hji21⟩ : ∃ j_ : Int, (mn (rd y189 x54_3) 131072) = j_ := ⟨_, rfl⟩
                            replace H : (grapnellaw16_large.l1 k3 (wrap64 (x3_3 + (ji21))) (l0_2.length : Int) x28_2 y189 (y189.length : Int) (wrap64 (x54_3 + 1)) l0_0 l0_1 l0_2) = some r := by first | (rw [hji21] at H; exact H) | (simp only [hji21] at H ⊢; exact H)
                            have hji21_ : (if 131072 < (rd y189 x54_3) then 131072 else (rd y189 x54_3)) = ji21 := hji21
                            have H' := Aside0.mk H
                            clear H
                            have p192 : 0 ≤ (x54_3 : Int) := of_decide_eq_true (by first | (with_reducible assumption) | assumption)
                            have q192 : x54_3 < (y189.length : Int) := of_decide_eq_true (by first | (with_reducible assumption) | assumption)
                            obtain ⟨ad192, e192, hx192_0⟩ := Kd.at_int (Kd.R_reads' HO_52.out).2.2 x54_3 p192 q192
                            cases e192
                            replace p192 := eq_true p192
                            replace q192 := eq_true q192
                            go_wp2
                            go_roundg k3
                            case measure => have := HJ1.out; have := HK2.out; have := HK3.out; omega
                            case rel => exact ⟨(wrap64 (x3_3 + (ji21))), (wrap64 (x54_3 + 1)), (by first | rfl | (simp; done) | (simp only [← hji21] <;> (first | rfl | simp)) | (simp [*]; done)), (by first | rfl | (simp; done) | (simp [*]; done)), H', ⟨by have := HJ1.out; have := HK2.out; have := HK3.out; omega⟩, ⟨by (with_reducible repeat (first | apply Kd.R_alloc | apply Kd.R_drewN | apply Kd.R_drew)); exact HO_52.out⟩, ⟨by (with_reducible repeat (first | refine blk_drewN ?_ _ | refine blk_drew ?_ | refine blk_alloc ?_ _)); exact BK185.out⟩, ⟨by repeat (first | (with_reducible first | exact HB.out | apply below_alloc | apply pw_below_drewN | apply below_drew1 | refine below_set ?_ GE185.out) | exact HB.out)⟩⟩
                          · rw [if_neg c20] at H
                            exact absurd H (by simp)
                        · rw [if_neg c19] at H
                          exact absurd H (by simp)
                      · rw [if_neg c18] at H
                        have c18b0 : decide (x54_3 < (y189.length : Int)) = false := decide_eq_false c18
                        clear c18
                        by_cases c22 : x3_3 > 65536
                        · rw [if_pos c22] at H
                          have c22b0 : decide (65536 < x3_3) = true := decide_eq_true c22
                          clear c22
                          obtain rfl := Option.some.inj H
                          go_wp2
                          go_ret
                          exact ⟨by first | rfl | (simp [errW_none, errW_some] <;> rfl) | (simp [*, errW_none, errW_some] <;> rfl), by repeat (first | (with_reducible first | exact HB.out | apply below_alloc | apply pw_below_drewN | apply below_drew1 | refine below_set ?_ GE185.out) | exact HB.out)⟩
                        · rw [if_neg c22] at H
                          have c22b0 : decide (65536 < x3_3) = false := decide_eq_false c22
                          clear c22
                          have H' := Aside0.mk H
                          clear H
                          go_wp2
                          go_roundg k3
                          case measure => have := HJ1.out; have := HK2.out; have := HK3.out; omega
                          case rel => exact ⟨(x3_3), (wrap64 (x28_2 + 1)), (by first | rfl | (simp; done) | (simp [*]; done)), (by first | rfl | (simp; done) | (simp [*]; done)), H', ⟨by have := HJ1.out; have := HK2.out; have := HK3.out; omega⟩, ⟨by (with_reducible repeat (first | refine blk_drewN ?_ _ | refine blk_drew ?_ | refine blk_alloc ?_ _)); exact BK185.out⟩, ⟨by repeat (first | (with_reducible first | exact HB.out | apply below_alloc | apply pw_below_drewN | apply below_drew1 | refine below_set ?_ GE185.out) | exact HB.out)⟩⟩
                · rw [if_neg c13] at H
                  exact absurd H (by simp)
              · rw [if_neg c12] at H
                exact absurd H (by simp)
            · rw [if_neg c11] at H
              have c11b0 : decide (x28_2 < (l0_2.length : Int)) = false := decide_eq_false c11
              clear c11
              have H' := Aside0.mk H
              clear H
              have hcz23_0 : wr.cell? ⟨gb185, 0, none⟩ = some (.slice A0_0 l0_0.length c0_0) := (blk_cell BK185.out 0).trans rfl
              have hcz23_1 : wr.cell? ⟨gb185, 1, none⟩ = some (.slice A0_1 l0_1.length c0_1) := (blk_cell BK185.out 1).trans rfl
              have hcz23_2 : wr.cell? ⟨gb185, 2, none⟩ = some (.slice A0_2 l0_2.length c0_2) := (blk_cell BK185.out 2).trans rfl
              have hfz23_0 := blk_frozen BK185.out 0
              have hfz23_1 := blk_frozen BK185.out 1
              have hfz23_2 := blk_frozen BK185.out 2
              go_wp2
              go_loopg [3, 69] k2 (fun kq v3 v69 w' => ∃ (x3_3 : Int) (x69_3 : Int), v3 = .int .i64 x3_3 ∧ v69 = .int .i64 x69_3 ∧ Aside0 (grapnellaw16_large.l2 kq x3_3 (l0_1.length : Int) x69_3 l0_0 l0_1 l0_2 = some r) ∧ Aside0 (kq ≤ k2) ∧ Aside0 (w'.heap[gb185]? = some (.cells #[(.slice A0_0 l0_0.length c0_0), (.slice A0_1 l0_1.length c0_1), (.slice A0_2 l0_2.length c0_2)] 26 (0, 0))) ∧ Aside0 (Below w.heap.size w w'))
              case atStart => exact ⟨(x3_2), (0), (by first | rfl | (simp; done) | (simp [*]; done)), (by first | rfl | (simp; done) | (simp [*]; done)), H', ⟨Nat.le_refl _⟩, ⟨by (with_reducible repeat (first | refine blk_drewN ?_ _ | refine blk_drew ?_ | refine blk_alloc ?_ _)); exact BK185.out⟩, ⟨by repeat (first | (with_reducible first | exact HB.out | apply below_alloc | apply pw_below_drewN | apply below_drew1 | refine below_set ?_ GE185.out) | exact HB.out)⟩⟩
              case round =>
                clear H'
                try clear c1
                try clear p1
                try clear q1
                try clear hx1
                try clear c2
                try clear p2
                try clear c4
                try clear c4b0
                try clear c4b1
                try clear c6
                try clear c6b0
                try clear c6b1
                try clear p6
                try clear c9
                try clear c10
                try clear c11
                try clear c11b0
                try clear c12
                try clear c12b0
                try clear c13
                try clear c13b0
                try clear c18
                try clear c18b0
                try clear p18
                try clear q18
                try clear hx18
                try clear c19
                try clear c19b0
                try clear p19
                try clear q19
                try clear hx19
                try clear c20
                try clear c20b0
                try clear c22
                try clear c22b0
                try clear hcz10_0
                try clear hcz10_1
                try clear hcz10_2
                try clear hcz23_0
                try clear hcz23_1
                try clear hcz23_2
                try clear hcz5_0
                try clear hcz5_1
                try clear hcz5_2
                try clear hcz7_0
                try clear hcz7_1
                try clear hcz7_2
                try clear hcz8_0
                try clear hcz8_1
                try clear hcz8_2
                try clear hfz10_0
                try clear hfz10_1
                try clear hfz10_2
                try clear hfz23_0
                try clear hfz23_1
                try clear hfz23_2
                try clear hfz5_0
                try clear hfz5_1
                try clear hfz5_2
                try clear hfz7_0
                try clear hfz7_1
                try clear hfz7_2
                try clear hfz8_0
                try clear hfz8_1
                try clear hfz8_2
                try clear hx186_0
                try clear hx186_1
                try clear hx186_2
                try clear hx186_3
                try clear hx186_4
                try clear hx186_5
                try clear hx187_0
                try clear hx187_1
                try clear hx187_2
                try clear hx187_3
                try clear hx187_4
                try clear hx187_5
                try clear hx188_0
                try clear hx188_1
                try clear hx188_2
                try clear hx188_3
                try clear hx188_4
                try clear hx188_5
                try clear hx192_0
                try clear p1
                try clear p186
                try clear p187
                try clear p188
                try clear p192
                try clear p2
                try clear q1
                try clear q186
                try clear q187
                try clear q188
                try clear q192
                obtain ⟨x3_3, x69_3, rfl, rfl, HA, HK3, BK185, HB⟩ := hrel
                cases gk with
                | zero => exact absurd HA.out (by simp [grapnellaw16_large.l2])
                | succ k3 =>
                  have H := HA.out
                  clear HA
                  simp only [grapnellaw16_large.l2] at H
                  by_cases c24 : x69_3 < (l0_1.length : Int)
                  · rw [if_pos c24] at H
                    have c24b0 : decide (x69_3 < (l0_1.length : Int)) = true := decide_eq_true c24
                    clear c24
                    by_cases c25 : 0 ≤ x69_3
                    · rw [if_pos c25] at H
                      have c25b0 : decide (0 ≤ x69_3) = true := decide_eq_true c25
                      clear c25
                      by_cases c26 : x69_3 < (l0_1.length : Int)
                      · rw [if_pos c26] at H
                        have c26b0 : decide (x69_3 < (l0_1.length : Int)) = true := decide_eq_true c26
                        clear c26
                        obtain ⟨ji27, hji27⟩ : ∃ j_ : Int, (mn ((rdOf ByteArray.empty l0_1 x69_3).size : Int) 1048576) = j_ := ⟨_, rfl⟩
                        replace H : (grapnellaw16_large.l2 k3 (wrap64 (x3_3 + (ji27))) (l0_1.length : Int) (wrap64 (x69_3 + 1)) l0_0 l0_1 l0_2) = some r := by first | (rw [hji27] at H; exact H) | (simp only [hji27] at H ⊢; exact H)
                        have hji27_ : (if 1048576 < ((rdOf ByteArray.empty l0_1 x69_3).size : Int) then 1048576 else ((rdOf ByteArray.empty l0_1 x69_3).size : Int)) = ji27 := hji27
                        have H' := Aside0.mk H
                        clear H
                        have hcz28_0 : wr.cell? ⟨gb185, 0, none⟩ = some (.slice A0_0 l0_0.length c0_0) := (blk_cell BK185.out 0).trans rfl
                        have hcz28_1 : wr.cell? ⟨gb185, 1, none⟩ = some (.slice A0_1 l0_1.length c0_1) := (blk_cell BK185.out 1).trans rfl
                        have hcz28_2 : wr.cell? ⟨gb185, 2, none⟩ = some (.slice A0_2 l0_2.length c0_2) := (blk_cell BK185.out 2).trans rfl
                        have hfz28_0 := blk_frozen BK185.out 0
                        have hfz28_1 := blk_frozen BK185.out 1
                        have hfz28_2 := blk_frozen BK185.out 2
                        have p193 : 0 ≤ (x69_3 : Int) := of_decide_eq_true (by first | (with_reducible assumption) | assumption)
                        have q193 : x69_3 < (l0_1.length : Int) := of_decide_eq_true (by first | (with_reducible assumption) | assumption)
                        obtain ⟨ad193, e193, hx193_0⟩ := Kd.at_string HR0_1.out x69_3 p193 q193
                        cases e193
                        replace hx193_0 := (HB.out.cell (World.block_lt_of_cell? w _ hx193_0)).trans hx193_0
                        replace p193 := eq_true p193
                        replace q193 := eq_true q193
                        go_wp2
                        go_roundg k3
                        case measure => have := HJ1.out; have := HK2.out; have := HK3.out; omega
                        case rel => exact ⟨(wrap64 (x3_3 + (ji27))), (wrap64 (x69_3 + 1)), (by first | rfl | (simp; done) | (simp only [← hji27] <;> (first | rfl | simp)) | (simp [*]; done)), (by first | rfl | (simp; done) | (simp [*]; done)), H', ⟨by have := HJ1.out; have := HK2.out; have := HK3.out; omega⟩, ⟨by (with_reducible repeat (first | refine blk_drewN ?_ _ | refine blk_drew ?_ | refine blk_alloc ?_ _)); exact BK185.out⟩, ⟨by repeat (first | (with_reducible first | exact HB.out | apply below_alloc | apply pw_below_drewN | apply below_drew1 | refine below_set ?_ GE185.out) | exact HB.out)⟩⟩
                      · rw [if_neg c26] at H
                        exact absurd H (by simp)
                    · rw [if_neg c25] at H
                      exact absurd H (by simp)
                  · rw [if_neg c24] at H
                    have c24b0 : decide (x69_3 < (l0_1.length : Int)) = false := decide_eq_false c24
                    clear c24
                    have H' := Aside0.mk H
                    clear H
                    have hcz29_0 : wr.cell? ⟨gb185, 0, none⟩ = some (.slice A0_0 l0_0.length c0_0) := (blk_cell BK185.out 0).trans rfl
                    have hcz29_1 : wr.cell? ⟨gb185, 1, none⟩ = some (.slice A0_1 l0_1.length c0_1) := (blk_cell BK185.out 1).trans rfl
                    have hcz29_2 : wr.cell? ⟨gb185, 2, none⟩ = some (.slice A0_2 l0_2.length c0_2) := (blk_cell BK185.out 2).trans rfl
                    have hfz29_0 := blk_frozen BK185.out 0
                    have hfz29_1 := blk_frozen BK185.out 1
                    have hfz29_2 := blk_frozen BK185.out 2
                    go_wp2
                    go_loopg [3, 85] k3 (fun kq v3 v85 w' => ∃ (x3_4 : Int) (x85_4 : Int), v3 = .int .i64 x3_4 ∧ v85 = .int .i64 x85_4 ∧ Aside0 (grapnellaw16_large.l3 kq x3_4 (l0_0.length : Int) x85_4 l0_0 l0_1 l0_2 = some r) ∧ Aside0 (kq ≤ k3) ∧ Aside0 (w'.heap[gb185]? = some (.cells #[(.slice A0_0 l0_0.length c0_0), (.slice A0_1 l0_1.length c0_1), (.slice A0_2 l0_2.length c0_2)] 26 (0, 0))) ∧ Aside0 (Below w.heap.size w w'))
                    case atStart => exact ⟨(x3_3), (0), (by first | rfl | (simp; done) | (simp [*]; done)), (by first | rfl | (simp; done) | (simp [*]; done)), H', ⟨Nat.le_refl _⟩, ⟨by (with_reducible repeat (first | refine blk_drewN ?_ _ | refine blk_drew ?_ | refine blk_alloc ?_ _)); exact BK185.out⟩, ⟨by repeat (first | (with_reducible first | exact HB.out | apply below_alloc | apply pw_below_drewN | apply below_drew1 | refine below_set ?_ GE185.out) | exact HB.out)⟩⟩
                    case round =>
                      clear H'
                      try clear c1
                      try clear p1
                      try clear q1
                      try clear hx1
                      try clear c2
                      try clear p2
                      try clear c4
                      try clear c4b0
                      try clear c4b1
                      try clear c6
                      try clear c6b0
                      try clear c6b1
                      try clear p6
                      try clear c9
                      try clear c10
                      try clear c11
                      try clear c11b0
                      try clear c12
                      try clear c12b0
                      try clear c13
                      try clear c13b0
                      try clear c18
                      try clear c18b0
                      try clear p18
                      try clear q18
                      try clear hx18
                      try clear c19
                      try clear c19b0
                      try clear p19
                      try clear q19
                      try clear hx19
                      try clear c20
                      try clear c20b0
                      try clear c22
                      try clear c22b0
                      try clear c24
                      try clear c24b0
                      try clear c25
                      try clear c25b0
                      try clear c26
                      try clear c26b0
                      try clear hcz10_0
                      try clear hcz10_1
                      try clear hcz10_2
                      try clear hcz23_0
                      try clear hcz23_1
                      try clear hcz23_2
                      try clear hcz28_0
                      try clear hcz28_1
                      try clear hcz28_2
                      try clear hcz29_0
                      try clear hcz29_1
                      try clear hcz29_2
                      try clear hcz5_0
                      try clear hcz5_1
                      try clear hcz5_2
                      try clear hcz7_0
                      try clear hcz7_1
                      try clear hcz7_2
                      try clear hcz8_0
                      try clear hcz8_1
                      try clear hcz8_2
                      try clear hfz10_0
                      try clear hfz10_1
                      try clear hfz10_2
                      try clear hfz23_0
                      try clear hfz23_1
                      try clear hfz23_2
                      try clear hfz28_0
                      try clear hfz28_1
                      try clear hfz28_2
                      try clear hfz29_0
                      try clear hfz29_1
                      try clear hfz29_2
                      try clear hfz5_0
                      try clear hfz5_1
                      try clear hfz5_2
                      try clear hfz7_0
                      try clear hfz7_1
                      try clear hfz7_2
                      try clear hfz8_0
                      try clear hfz8_1
                      try clear hfz8_2
                      try clear hx186_0
                      try clear hx186_1
                      try clear hx186_2
                      try clear hx186_3
                      try clear hx186_4
                      try clear hx186_5
                      try clear hx187_0
                      try clear hx187_1
                      try clear hx187_2
                      try clear hx187_3
                      try clear hx187_4
                      try clear hx187_5
                      try clear hx188_0
                      try clear hx188_1
                      try clear hx188_2
                      try clear hx188_3
                      try clear hx188_4
                      try clear hx188_5
                      try clear hx192_0
                      try clear hx193_0
                      try clear p1
                      try clear p18
                      try clear p186
                      try clear p187
                      try clear p188
                      try clear p19
                      try clear p192
                      try clear p193
                      try clear p2
                      try clear p6
                      try clear q1
                      try clear q18
                      try clear q186
                      try clear q187
                      try clear q188
                      try clear q19
                      try clear q192
                      try clear q193
                      obtain ⟨x3_4, x85_4, rfl, rfl, HA, HK4, BK185, HB⟩ := hrel
                      cases gk with
                      | zero => exact absurd HA.out (by simp [grapnellaw16_large.l3])
                      | succ k4 =>
                        have H := HA.out
                        clear HA
                        simp only [grapnellaw16_large.l3] at H
                        by_cases c30 : x85_4 < (l0_0.length : Int)
                        · rw [if_pos c30] at H
                          have c30b0 : decide (x85_4 < (l0_0.length : Int)) = true := decide_eq_true c30
                          clear c30
                          by_cases c31 : 0 ≤ x85_4
                          · rw [if_pos c31] at H
                            have c31b0 : decide (0 ≤ x85_4) = true := decide_eq_true c31
                            clear c31
                            by_cases c32 : x85_4 < (l0_0.length : Int)
                            · rw [if_pos c32] at H
                              have c32b0 : decide (x85_4 < (l0_0.length : Int)) = true := decide_eq_true c32
                              clear c32
                              obtain ⟨ji33, hji33⟩ : ∃ j_ : Int, (mn (((rd_T45 l0_0 x85_4).f0).size : Int) 1048576) = j_ := ⟨_, rfl⟩
                              replace H : (grapnellaw16_large.l3 k4 (wrap64 (x3_4 + (ji33))) (l0_0.length : Int) (wrap64 (x85_4 + 1)) l0_0 l0_1 l0_2) = some r := by first | (rw [hji33] at H; exact H) | (simp only [hji33] at H ⊢; exact H)
                              have hji33_ : (if 1048576 < (((rd_T45 l0_0 x85_4).f0).size : Int) then 1048576 else (((rd_T45 l0_0 x85_4).f0).size : Int)) = ji33 := hji33
                              have H' := Aside0.mk H
                              clear H
                              have hcz34_0 : wr.cell? ⟨gb185, 0, none⟩ = some (.slice A0_0 l0_0.length c0_0) := (blk_cell BK185.out 0).trans rfl
                              have hcz34_1 : wr.cell? ⟨gb185, 1, none⟩ = some (.slice A0_1 l0_1.length c0_1) := (blk_cell BK185.out 1).trans rfl
                              have hcz34_2 : wr.cell? ⟨gb185, 2, none⟩ = some (.slice A0_2 l0_2.length c0_2) := (blk_cell BK185.out 2).trans rfl
                              have hfz34_0 := blk_frozen BK185.out 0
                              have hfz34_1 := blk_frozen BK185.out 1
                              have hfz34_2 := blk_frozen BK185.out 2
                              have p194 : 0 ≤ (x85_4 : Int) := of_decide_eq_true (by first | (with_reducible assumption) | assumption)
                              have q194 : x85_4 < (l0_0.length : Int) := of_decide_eq_true (by first | (with_reducible assumption) | assumption)
                              obtain ⟨ad194, e194, hx194_0, hx194_1⟩ := at_T45 HR0_0.out x85_4 p194 q194
                              cases e194
                              replace hx194_0 := (HB.out.cell (World.block_lt_of_cell? w _ hx194_0)).trans hx194_0
                              replace hx194_1 := (HB.out.cell (World.block_lt_of_cell? w _ hx194_1)).trans hx194_1
                              replace p194 := eq_true p194
                              replace q194 := eq_true q194
                              go_wp2
                              go_roundg k4
                              case measure => have := HJ1.out; have := HK2.out; have := HK3.out; have := HK4.out; omega
                              case rel => exact ⟨(wrap64 (x3_4 + (ji33))), (wrap64 (x85_4 + 1)), (by first | rfl | (simp; done) | (simp only [← hji33] <;> (first | rfl | simp)) | (simp [*]; done)), (by first | rfl | (simp; done) | (simp [*]; done)), H', ⟨by have := HJ1.out; have := HK2.out; have := HK3.out; have := HK4.out; omega⟩, ⟨by (with_reducible repeat (first | refine blk_drewN ?_ _ | refine blk_drew ?_ | refine blk_alloc ?_ _)); exact BK185.out⟩, ⟨by repeat (first | (with_reducible first | exact HB.out | apply below_alloc | apply pw_below_drewN | apply below_drew1 | refine below_set ?_ GE185.out) | exact HB.out)⟩⟩
                            · rw [if_neg c32] at H
                              exact absurd H (by simp)
                          · rw [if_neg c31] at H
                            exact absurd H (by simp)
                        · rw [if_neg c30] at H
                          have c30b0 : decide (x85_4 < (l0_0.length : Int)) = false := decide_eq_false c30
                          clear c30
                          obtain rfl := Option.some.inj H
                          go_wp2
                          go_ret
                          exact ⟨by first | rfl | (simp [errW_none, errW_some] <;> rfl) | (simp [*, errW_none, errW_some] <;> rfl), by repeat (first | (with_reducible first | exact HB.out | apply below_alloc | apply pw_below_drewN | apply below_drew1 | refine below_set ?_ GE185.out) | exact HB.out)⟩
end Go.Proofs.Ytmjafkhkoifopaa.PCodeDecodes
end
section
/- awake: the image that the document fixes. -/
namespace Go.Proofs.Ytmjafkhkoifopaa.C16
open Go.RowKit Go.Proofs.YtmjafkhkoifopaaW.PrintWords Go.Proofs.YtmjafkhkoifopaaW.PrintLast Go.Proofs.YtmjafkhkoifopaaW.PrintMore Go.Proofs.Ytmjafkhkoifopaa.PCodeDecodes
set_option linter.unusedVariables false
set_option linter.unusedSimpArgs false
def es6 : List S45 := [⟨⟨#[77, 97, 116, 99, 104, 95, 102, 97, 105, 108, 117, 114, 101]⟩, false⟩, ⟨⟨#[68, 105, 118, 105, 115, 105, 111, 110, 95, 98, 121, 95, 122, 101, 114, 111]⟩, false⟩, ⟨⟨#[73, 110, 118, 97, 108, 105, 100, 95, 97, 114, 103, 117, 109, 101, 110, 116]⟩, false⟩, ⟨⟨#[69, 110, 100, 95, 111, 102, 95, 102, 105, 108, 101]⟩, false⟩, ⟨⟨#[78, 111, 116, 95, 102, 111, 117, 110, 100]⟩, false⟩, ⟨⟨#[70, 97, 105, 108, 117, 114, 101]⟩, true⟩]
def stop1 : List S43 := [⟨30, 0, 0, [], [], []⟩]
theorem six {k : Nat} (h : k < 6) : k = 0 ∨ k = 1 ∨ k = 2 ∨ k = 3 ∨ k = 4 ∨ k = 5 := by omega
theorem ba_ne {a b : ByteArray} (h : a.data.toList ≠ b.data.toList) : a ≠ b := fun e => h (by rw [e])
theorem exns6 : ExnsOk es6 := by
  refine ⟨by decide, by decide, fun k hk => ?_⟩
  have hk6 : k < 6 := hk
  rcases six hk6 with rfl | rfl | rfl | rfl | rfl | rfl
  all_goals refine ⟨by rw [ByteArray.toList_eq]; rfl, by decide, fun j hj => ?_, fun _ => ⟨rfl, by decide⟩⟩
  all_goals
    rcases six (Nat.lt_trans hj (by decide)) with rfl | rfl | rfl | rfl | rfl | rfl
    all_goals first | (exfalso; omega) | exact ba_ne (by decide)
theorem may6 : MayOk es6 [] stop1 := by
  refine ⟨exns6, by decide, by decide, by decide, rfl, fun k hk => ?_⟩
  have hk1 : k < 1 := hk
  obtain rfl : k = 0 := by omega
  show insOk [] stop1 0 ⟨30, 0, 0, [], [], []⟩
  refine ⟨by decide, by decide, fun _ => rfl, fun _ => ⟨rfl, rfl⟩, ?_, fun _ => rfl, ?_, ?_, ?_, rfl⟩
  · intro h; exact absurd h (by decide)
  · intro h; exact absurd h (by decide)
  · intro h; exact absurd h (by decide)
  · intro h; exact absurd h (by decide)
theorem small6 : Small stop1 := by
  intro c hc
  rw [stop1, List.mem_singleton] at hc
  subst hc
  decide
theorem ranged6 : Ranged stop1 := by
  intro c hc
  rw [stop1, List.mem_singleton] at hc
  subst hc
  refine ⟨⟨by decide, by decide⟩, ⟨by decide, by decide⟩, fun n hn => absurd hn (by simp), fun n hn => absurd hn (by simp)⟩
set_option maxRecDepth 100000 in
theorem enc6_length : (encImage es6 [] stop1).length = 202 := by decide
set_option maxRecDepth 100000 in
theorem enc6_0 : (encImage es6 [] stop1)[0]? = some 71 := by decide
set_option maxRecDepth 100000 in
theorem enc6_194 : (encImage es6 [] stop1)[194]? = some 30 := by decide
theorem may_none : ¬ MayOk [] [] [] := fun h => absurd h.2.2.1 (by simp)
end Go.Proofs.Ytmjafkhkoifopaa.C16
end
section
/- awake: it tells true. -/
namespace Go.Proofs.Ytmjafkhkoifopaa.C16
open Go.RowKit Go.Proofs.YtmjafkhkoifopaaW.PrintWords Go.Proofs.YtmjafkhkoifopaaW.PrintLast Go.Proofs.YtmjafkhkoifopaaW.PrintMore Go.Proofs.Ytmjafkhkoifopaa.PCodeDecodes
set_option linter.unusedVariables false
set_option linter.unusedSimpArgs false
theorem C_stop {W : World} {g : Nat} (h : W.heap[g]? = some (.cells #[.int .i64 30, .int .i64 0, .int .i64 0, .slice none 0 0, .slice none 0 0, .slice none 0 0] 43 (0, 0))) : Kd.C k43 W (some ⟨g, 0, none⟩) stop1.length stop1 := by
  refine ⟨rfl, by decide, fun _ => ⟨_, rfl, fun j p hp => ⟨[.int .i64 30, .int .i64 0, .int .i64 0, .slice none 0 0, .slice none 0 0, .slice none 0 0], rfl, ?_, fun i u hu => ?_⟩⟩⟩
  · match j, hp with
    | 0, hp =>
      cases hp
      exact k43_mk W ⟨30, 0, 0, [], [], []⟩ (Nat.le_refl 0) (Kd.C_nil _ _) (Nat.le_refl 0) (Kd.C_nil _ _) (Nat.le_refl 0) (Kd.C_nil _ _)
  · match j, hp with
    | 0, hp =>
      rw [Addr.add_lit]
      refine (blk_cell h _).trans ?_
      simpa using hu
theorem awake_img {w w1 : World} {A0 : Option Addr} {c0 n0 : Nat} (ho : Kd.R k45 45 w1 w.heap.size (fun _ => True) (.slice A0 n0 c0) es6) (y : Array Value) :
    ImgAt ((w1.alloc (.cells #[.int .i64 30, .int .i64 0, .int .i64 0, .slice none 0 0, .slice none 0 0, .slice none 0 0] 43)).alloc (.cells y 26)) A0 c0 none 0 (some ⟨w1.heap.size, 0, none⟩) 1 es6 [] stop1 := by
  obtain ⟨rfl, a2, a3⟩ := Kd.R_reads' ho
  exact ⟨Kd.C_alloc (Kd.C_alloc a3 _) _, a2, Kd.C_nil _ _, Nat.le_refl _, C_stop (blk_alloc (blk_new w1 _) _), by decide⟩
/-- What Encode tells of an image that may be and whose bytes are not too many. -/
theorem enc_ok {es : List S45} {ts : List ByteArray} {cs : List S43} {w w' : World} {e : Ending} (h : EncGives es ts cs w e w') (hm : MayOk es ts cs) (hl : (encImage es ts cs).length ≤ 65536) :
    ∃ A c, e = .returned (.tuple #[.slice A (encImage es ts cs).length c, .int .i64 0]) ∧ Came w' A c (encImage es ts cs) ∧ Below w.heap.size w w' := by
  obtain ⟨l, err, v, hE, rfl, ho, hb⟩ := h
  rcases hE with ⟨h1, _⟩ | ⟨_, h2, _⟩ | ⟨_, _, rfl, rfl⟩
  · exact absurd hm h1
  · omega
  · obtain ⟨A, c, rfl⟩ := Kd.R_slice ho
    obtain ⟨_, h1, h2⟩ := Kd.R_reads' ho
    exact ⟨A, c, rfl, ⟨bytes_enc _ _ _, h1, h2⟩, hb⟩
/-- An image that a call made, as its answer. -/
theorem dec_img {bs : List Int} {w w' : World} {i : Im} {vE vT vC : Value} (oE : Kd.R k45 45 w' w.heap.size (fun _ => True) vE i.es) (oT : Kd.R Kd.string 9 w' w.heap.size (fun _ => True) vT i.ts) (oC : Kd.R k43 43 w' w.heap.size (fun _ => True) vC i.cs) :
    ∃ A0 c0 A1 c1 A2 c2, vE = .slice A0 i.es.length c0 ∧ vT = .slice A1 i.ts.length c1 ∧ vC = .slice A2 i.cs.length c2 ∧ ImgAt w' A0 c0 A1 c1 A2 c2 i.es i.ts i.cs := by
  obtain ⟨A0, c0, rfl⟩ := Kd.R_slice oE
  obtain ⟨A1, c1, rfl⟩ := Kd.R_slice oT
  obtain ⟨A2, c2, rfl⟩ := Kd.R_slice oC
  obtain ⟨_, a2, a3⟩ := Kd.R_reads' oE
  obtain ⟨_, b2, b3⟩ := Kd.R_reads' oT
  obtain ⟨_, e2, e3⟩ := Kd.R_reads' oC
  exact ⟨A0, c0, A1, c1, A2, c2, rfl, rfl, rfl, a3, a2, b3, b2, e3, e2⟩
/-- What Decode tells of an image's bytes. -/
theorem dec_ok {es : List S45} {ts : List ByteArray} {cs : List S43} {w w' : World} {e : Ending} (h : DecGives (encImage es ts cs) w e w') (hm : MayOk es ts cs) (hz : Small cs) (hr : Ranged cs) (hl : (encImage es ts cs).length ≤ 65536) :
    ∃ A0 c0 A1 c1 A2 c2, e = .returned (.tuple #[.agg #[.slice A0 es.length c0, .slice A1 ts.length c1, .slice A2 cs.length c2], .int .i64 0]) ∧ ImgAt w' A0 c0 A1 c1 A2 c2 es ts cs ∧ Below w.heap.size w w' := by
  obtain ⟨i, err, vE, vT, vC, hD, rfl, oE, oT, oC, hb⟩ := h
  have hp := pImage_self hm hz hr
  rcases hD with ⟨h1, _⟩ | ⟨_, h1, _⟩ | ⟨_, h1, _, rfl⟩ | ⟨j, _, h1, h2, _⟩
  · omega
  · rw [hp] at h1; cases h1
  · rw [hp] at h1
    cases h1
    obtain ⟨A0, c0, A1, c1, A2, c2, rfl, rfl, rfl, hi⟩ := dec_img (bs := []) oE oT oC
    exact ⟨A0, c0, A1, c1, A2, c2, rfl, hi, hb⟩
  · rw [hp] at h1
    cases h1
    exact absurd hm h2
/-- What Decode tells of what is no image. -/
theorem dec_none {bs : List Int} {w w' : World} {e : Ending} (h : DecGives bs w e w') (hn : ∀ j, pImage bs = some j → ¬ MayOk j.es j.ts j.cs) :
    ∃ err, (bs.length ≤ 65536 ∧ err = 30 ∨ 65536 < bs.length ∧ err = 3) ∧ (∃ A0 c0 A1 c1 A2 c2, e = .returned (.tuple #[.agg #[.slice A0 0 c0, .slice A1 0 c1, .slice A2 0 c2], .int .i64 err])) ∧ Below w.heap.size w w' := by
  obtain ⟨i, err, vE, vT, vC, hD, rfl, oE, oT, oC, hb⟩ := h
  obtain ⟨A0, c0, A1, c1, A2, c2, rfl, rfl, rfl, hi⟩ := dec_img (bs := []) oE oT oC
  rcases hD with ⟨h1, rfl, rfl⟩ | ⟨h1, _, rfl, rfl⟩ | ⟨_, h1, h2, rfl⟩ | ⟨j, h1, _, h2, rfl, rfl⟩
  · exact ⟨3, .inr ⟨h1, rfl⟩, ⟨A0, c0, A1, c1, A2, c2, rfl⟩, hb⟩
  · exact ⟨30, .inl ⟨h1, rfl⟩, ⟨A0, c0, A1, c1, A2, c2, rfl⟩, hb⟩
  · exact absurd h2 (hn i h1)
  · exact ⟨30, .inl ⟨h1, rfl⟩, ⟨A0, c0, A1, c1, A2, c2, rfl⟩, hb⟩
theorem enc_bad2 {es : List S45} {ts : List ByteArray} {cs : List S43} {w w' : World} {e : Ending} (h : EncGives es ts cs w e w') (hm : ¬ MayOk es ts cs) :
    ∃ v, e = .returned (.tuple #[v, .int .i64 5]) ∧ Below w.heap.size w w' := by
  obtain ⟨l, err, v, hE, rfl, ho, hb⟩ := h
  rcases hE with ⟨h1, rfl, rfl⟩ | ⟨h2, _⟩ | ⟨h2, _⟩
  · exact ⟨v, rfl, hb⟩
  · exact absurd h2 hm
  · exact absurd h2 hm
theorem empty_row (w3 : World) (o : Obj) : Kd.R (Kd.int .u8) 5 ((w3.alloc o).alloc (.cells #[] 5)) w3.heap.size (fun _ => True) (.slice (some ⟨w3.heap.size + 1, 0, none⟩) 0 0) [] := by
  refine Kd.R_of_own (h1 := fun _ => rfl) ⟨rfl, .inr ⟨w3.heap.size + 1, 0, #[], rfl, by omega, ?_, Nat.le_refl _, by decide, rfl, rfl⟩⟩ (fun _ _ => trivial)
  have := blk_new (w3.alloc o) (.cells #[] 5)
  rwa [World.size_alloc] at this
theorem err30 {n : Nat} {err : Int} (h : n ≤ 65536 ∧ err = 30 ∨ 65536 < n ∧ err = 3) (hn : n ≤ 65536) : err = 30 := by
  rcases h with ⟨_, h⟩ | ⟨h, _⟩
  · exact h
  · omega
theorem sized6 : Sized stop1 := fun c hc => by have := small6 c hc; omega
theorem enc6_cells {w : World} {A : Option Addr} {c : Nat} {en : List Int} (h : Came w A c en) (he : en = encImage es6 [] stop1) : ∃ ad, A = some ad ∧ w.cell? (ad.add 0) = some (.int .u8 71) ∧ w.cell? ad = some (.int .u8 71) ∧ w.cell? ⟨ad.block, ad.off + 194, none⟩ = some (.int .u8 30) := by
  have hl : en.length = 202 := by rw [he, enc6_length]
  obtain ⟨ad, hA, h0⟩ := at_int_nat h.2.2 0 (by omega)
  obtain ⟨ad', hA', h1⟩ := at_int_nat h.2.2 194 (by omega)
  rw [hA] at hA'
  obtain rfl := Option.some.inj hA'
  have e0 : en[0]'(by omega) = 71 := by
    have := enc6_0
    rw [← he, List.getElem?_eq_getElem (by omega)] at this
    exact Option.some.inj this
  have e1 : en[194]'(by omega) = 30 := by
    have := enc6_194
    rw [← he, List.getElem?_eq_getElem (by omega)] at this
    exact Option.some.inj this
  rw [e0] at h0
  rw [e1] at h1
  exact ⟨ad, hA, h0, h0, h1⟩
theorem Came.below {w w1 : World} {A : Option Addr} {c : Nat} {bs : List Int} (h : Came w A c bs) (hb : Below w.heap.size w w1) : Came w1 A c bs := ⟨h.1, h.2.1, Kd.C_below h.2.2 hb⟩
set_option maxRecDepth 100000 in
set_option maxHeartbeats 600000 in
theorem awake_calls (w : World) : Calls Try.prog 9 #[] w fun e w' => e = .returned (.bool true) ∧ Below w.heap.size w w' := by
  have HEN : Aside0 (∃ en, en = encImage es6 [] stop1) := ⟨_, rfl⟩
  obtain ⟨en, hen⟩ := HEN.out
  clear HEN
  have HEN := Aside0.mk hen
  clear hen
  have HEM : Aside0 (∃ em, em = en ++ [0]) := ⟨_, rfl⟩
  obtain ⟨em, hem⟩ := HEM.out
  clear HEM
  have HEM := Aside0.mk hem
  have HCN := Aside0.mk (show ∀ j, pImage em = some j → ¬ MayOk j.es j.ts j.cs from fun j hj => by rw [HEM.out, HEN.out, pImage_more may6 small6 ranged6 (more := [0]) (by simp)] at hj; cases hj)
  clear hem
  go_enter Try.func9, Try.ntmps9
  go_wp2_with (first
    | (go_at_call 18; refine (grapnellaw16_Exns.calls es6 w rfl).mono ?_; rintro e w1 ⟨v, rfl, ho, hb⟩; obtain ⟨A0, c0, rfl⟩ := Kd.R_slice ho; have HI := Aside0.mk (awake_img ho #[.slice A0 es6.length c0, .slice none 0 0, .slice (some ⟨w1.heap.size, 0, none⟩) 1 1]); have HB := Aside0.mk (below_alloc (below_alloc hb (.cells #[.int .i64 30, .int .i64 0, .int .i64 0, .slice none 0 0, .slice none 0 0, .slice none 0 0] 43)) (.cells #[.slice A0 es6.length c0, .slice none 0 0, .slice (some ⟨w1.heap.size, 0, none⟩) 1 1] 26)); have hP := blk_new (w1.alloc (.cells #[.int .i64 30, .int .i64 0, .int .i64 0, .slice none 0 0, .slice none 0 0, .slice none 0 0] 43)) (.cells #[.slice A0 es6.length c0, .slice none 0 0, .slice (some ⟨w1.heap.size, 0, none⟩) 1 1] 26); rw [World.size_alloc] at hP; have HP := Aside0.mk hP; clear ho hb hP)
    | (go_at_call 13; refine (encode_is A0 c0 none 0 (some ⟨w1.heap.size, 0, none⟩) 1 es6 [] stop1 _ HI.out small6).mono ?_; rintro e w2 h2; obtain ⟨Ab, cb, rfl, hCm, hb2⟩ := enc_ok h2 may6 (by rw [enc6_length]; decide); rw [← HEN.out] at hCm; rw [← HEN.out]; have HI2 := Aside0.mk (HI.out.below hb2); have HB2 := Aside0.mk (below_then HB.out HB.out.size hb2); have HP2 := Aside0.mk (blk_below HP.out hb2); have HC2 := Aside0.mk hCm; clear h2 hCm hb2 HI HB HP)
    | (go_at_call 15; refine (decode_is Ab cb en w2 HC2.out).mono ?_; rintro e w3 h3; rw [HEN.out] at h3; obtain ⟨D0, d0, D1, d1, D2, d2, rfl, hJ, hb3⟩ := dec_ok h3 may6 small6 ranged6 (by rw [enc6_length]; decide); have HI3 := Aside0.mk (HI2.out.below hb3); have HB3 := Aside0.mk (below_then HB2.out HB2.out.size hb3); have HP3 := Aside0.mk (blk_below HP2.out hb3); have HC3 := Aside0.mk (HC2.out.below hb3); have HJ3 := Aside0.mk hJ; clear h3 hJ hb3 HI2 HB2 HP2 HC2)
    | (at_builtin; refine Kd.R_append_rows (Kd.int .u8) (w0 := w3) w3.heap.size rfl (.tmp 25) (.tmp 26) 29 5 (.int .u8 0) 1 rfl Try.underlying29 info5 rfl (by decide) (by omega) (.slice (some ⟨w3.heap.size + 1, 0, none⟩) 0 0) [] en Ab en.length cb (fun _ => True) (fun _ => False) rfl rfl (empty_row w3 _) (Kd.C_alloc (Kd.C_alloc HC3.out.2.2 _) _) (fun _ _ h => h) (fun _ h => h.elim) (fun _ _ => trivial) (below2 _ _ _) ?aS ?aL ?_; (case aS => simp only [World.size_alloc]; omega); (case aL => rw [HEN.out, enc6_length]; decide); intro v1 w5 ho hb hg hat; have HR5 := Aside0.mk ho; have HB5 := Aside0.mk hb; have HJ5 := Aside0.mk (blk_grown (blk_alloc (blk_new w3 (.cells #[.slice D0 es6.length d0, .slice D1 0 d1, .slice D2 stop1.length d2] 26)) (.cells #[] 5)) hg (by simp [Value.ownBlock])); clear ho hb hg hat)
    | (at_builtin; refine Kd.R_append (Kd.int .u8) (w0 := w3) w3.heap.size rfl (.tmp 27) (.tmp 28) 29 5 (.int .u8 0) 1 rfl Try.underlying29 info5 rfl (by decide) (by omega) v1 ([] ++ en) 0 [.int .u8 0] (fun _ => True) (fun _ => False) rfl rfl ?bP (fun _ hk => hk.elim) (fun _ _ => trivial) HR5.out HB5.out HB5.out.size ?bL ?_; (case bP => exact rfl); (case bL => rw [List.nil_append, HEN.out, enc6_length]; decide); intro v2 w6 ho hb hg hat; rw [List.nil_append, ← HEM.out] at ho; have HI6 := Aside0.mk (HI3.out.below hb); have HP6 := Aside0.mk (blk_below HP3.out hb); have HC6 := Aside0.mk (HC3.out.below hb); have HJI6 := Aside0.mk (HJ3.out.below hb); have HB6 := Aside0.mk (below_then HB3.out HB3.out.size hb); have HJ6 := Aside0.mk (blk_grown HJ5.out hg (Kd.R_ne HR5.out HJ5.out (by decide))); obtain ⟨A6, c6, rfl⟩ := Kd.R_slice ho; have HR6 := Aside0.mk (Kd.R_reads' ho).2; clear ho hb hg hat HR5 HB5 HJ5 HI3 HP3 HC3 HJ3 HB3)
    | (go_at_call 15; refine (decode_is A6 c6 em w6 ⟨?cB, HR6.out.1, HR6.out.2⟩).mono ?_; (case cB => rw [HEM.out, HEN.out]; exact (bytes_enc _ _ _).app (fun x hx => by rw [List.mem_singleton.1 hx]; omega)); rintro e w7 h7; obtain ⟨err, herr, ⟨F0, f0, F1, f1, F2, f2, rfl⟩, hb⟩ := dec_none h7 HCN.out; obtain rfl := err30 herr (by rw [HEM.out, HEN.out, List.length_append, enc6_length]; decide); have HI7 := Aside0.mk (HI6.out.below hb); have HP7 := Aside0.mk (blk_below HP6.out hb); have HC7 := Aside0.mk (HC6.out.below hb); have HJI7 := Aside0.mk (HJI6.out.below hb); have HJ7 := Aside0.mk (blk_below HJ6.out hb); have HB7 := Aside0.mk (below_then HB6.out HB6.out.size hb); clear h7 herr hb HI6 HP6 HC6 HJI6 HJ6 HB6 HR6)
    | (go_at_call 13; refine (encode_is none 0 none 0 none 0 [] [] [] _ ⟨Kd.C_nil _ _, Nat.le_refl _, Kd.C_nil _ _, Nat.le_refl _, Kd.C_nil _ _, Nat.le_refl _⟩ (fun c hc => absurd hc (by simp))).mono ?_; rintro e w8 h8; obtain ⟨v8, rfl, hb⟩ := enc_bad2 h8 may_none; have hb' := below_step (below_alloc (Below.refl w7.heap.size w7) _) hb; have HI8 := Aside0.mk (HI7.out.below hb'); have HP8 := blk_below HP7.out hb'; have HC8 := Aside0.mk (HC7.out.below hb'); have HJI8 := Aside0.mk (HJI7.out.below hb'); have HJ8 := blk_below HJ7.out hb'; have HB8 := Aside0.mk (below_then HB7.out HB7.out.size hb'); clear h8 hb hb' HI7 HP7 HC7 HJI7 HJ7 HB7; have k1 := fun j => blk_cell HP8 j; have k2 := fun j => blk_frozen HP8 j; have k3 := fun j => blk_cell HJ8 j; have k4 := fun j => blk_frozen HJ8 j; have HP8' := Aside0.mk HP8; have HJ8' := Aside0.mk HJ8; clear HP8 HJ8)
    | (go_at_call 11; refine (may_calls A0 c0 none 0 (some ⟨w1.heap.size, 0, none⟩) 1 es6 [] stop1 w8 HI8.out sized6).mono ?_; rintro e w9 ⟨hs, hb⟩; obtain rfl := hs.is (b := true) ⟨fun _ => may6, fun _ => rfl⟩; have HI9 := Aside0.mk (HI8.out.below hb); have HP9 := Aside0.mk (blk_below HP8'.out hb); have HC9 := Aside0.mk (HC8.out.below hb); have HJI9 := Aside0.mk (HJI8.out.below hb); have HJ9 := Aside0.mk (blk_below HJ8'.out hb); have HB9 := Aside0.mk (below_then HB8.out HB8.out.size hb); clear hs hb HI8 HP8' HC8 HJI8 HJ8' HB8 k1 k2 k3 k4)
    | (go_at_call 11; refine (may_calls none 0 none 0 none 0 [] [] [] w9 ⟨Kd.C_nil _ _, Nat.le_refl _, Kd.C_nil _ _, Nat.le_refl _, Kd.C_nil _ _, Nat.le_refl _⟩ (fun c hc => absurd hc (by simp))).mono ?_; rintro e w10 ⟨hs, hb⟩; obtain rfl := hs.is (b := false) ⟨fun e_ => absurd e_ (by simp), fun h_ => absurd h_ may_none⟩; have HI10 := Aside0.mk (HI9.out.below hb); have HP10 := Aside0.mk (blk_below HP9.out hb); have HJI10 := Aside0.mk (HJI9.out.below hb); have HJ10 := Aside0.mk (blk_below HJ9.out hb); have HB10 := Aside0.mk (below_then HB9.out HB9.out.size hb); obtain ⟨ad, rfl, x0, x1, x2⟩ := enc6_cells (HC9.out.below hb) HEN.out; have hlen : en.length = 202 := (by rw [HEN.out, enc6_length]); clear hs hb HI9 HP9 HC9 HJI9 HJ9 HB9; have k1 := fun j => blk_cell HP10.out j; have k2 := fun j => blk_frozen HP10.out j; have k3 := fun j => blk_cell HJ10.out j; have k4 := fun j => blk_frozen HJ10.out j)
    | (go_at_call 17; refine (same_any A0 c0 none 0 (some ⟨w1.heap.size, 0, none⟩) 1 es6 [] stop1 D0 d0 D1 d1 D2 d2 es6 [] stop1 w10 HI10.out HJI10.out small6).mono ?_; rintro e w11 ⟨hs, hb⟩; obtain rfl := hs.is (b := true) ⟨fun _ => ⟨rfl, rfl, rfl⟩, fun _ => rfl⟩; have HB11 := Aside0.mk (below_then HB10.out HB10.out.size hb); clear hs hb))
  go_ret
  exact ⟨rfl, HB11.out⟩
end Go.Proofs.Ytmjafkhkoifopaa.C16
end
section
/- The law's own bound: what is not too large is small. -/
namespace Go.Proofs.Ytmjafkhkoifopaa.C16
open Go.RowKit Go.Proofs.YtmjafkhkoifopaaW.PrintWords Go.Proofs.YtmjafkhkoifopaaW.PrintLast Go.Proofs.YtmjafkhkoifopaaW.PrintMore Go.Proofs.Ytmjafkhkoifopaa.PCodeDecodes
set_option linter.unusedVariables false
set_option linter.unusedSimpArgs false
theorem large_l3 (es : List S45) (ts : List ByteArray) (cs : List S43) (he : es.length ≤ 300) : ∀ (d i : Nat) (x : Int), es.length - i = d → i ≤ es.length → ∃ k b, grapnellaw16_large.l3 k x (es.length : Int) i es ts cs = some b := by
  intro d
  induction d with
  | zero =>
    intro i x hd hi
    exact ⟨1, decide (x > 2097152), by rw [grapnellaw16_large.l3.eq_2, if_neg (by omega)]⟩
  | succ d ih =>
    intro i x hd hi
    have e2 : wrap64 ((i : Int) + 1) = ((i + 1 : Nat) : Int) := (wrap_id (by omega) (by omega)).trans (by omega)
    obtain ⟨k, b, h⟩ := ih (i + 1) (wrap64 (x + mn (((rd_T45 es i).f0).size : Int) 1048576)) (by omega) (by omega)
    exact ⟨k + 1, b, by rw [grapnellaw16_large.l3.eq_2, if_pos (by omega), if_pos (by omega), if_pos (by omega), e2]; exact h⟩
theorem large_l2 (es : List S45) (ts : List ByteArray) (cs : List S43) (he : es.length ≤ 300) (ht : ts.length ≤ 1100) : ∀ (d i : Nat) (x : Int), ts.length - i = d → i ≤ ts.length → ∃ k b, grapnellaw16_large.l2 k x (ts.length : Int) i es ts cs = some b := by
  intro d
  induction d with
  | zero =>
    intro i x hd hi
    obtain ⟨k, b, h⟩ := large_l3 es ts cs he es.length 0 x (by omega) (by omega)
    exact ⟨k + 1, b, by rw [grapnellaw16_large.l2.eq_2, if_neg (by omega)]; exact h⟩
  | succ d ih =>
    intro i x hd hi
    have e2 : wrap64 ((i : Int) + 1) = ((i + 1 : Nat) : Int) := (wrap_id (by omega) (by omega)).trans (by omega)
    obtain ⟨k, b, h⟩ := ih (i + 1) (wrap64 (x + mn ((rdOf ByteArray.empty ts i).size : Int) 1048576)) (by omega) (by omega)
    exact ⟨k + 1, b, by rw [grapnellaw16_large.l2.eq_2, if_pos (by omega), if_pos (by omega), if_pos (by omega), e2]; exact h⟩
theorem mn_range {a : Int} (h : 0 ≤ a) : 0 ≤ mn a 131072 ∧ mn a 131072 ≤ 131072 ∧ (mn a 131072 ≤ 65536 → a ≤ 65536) := by
  unfold mn
  split <;> omega
theorem large_l1 (es : List S45) (ts : List ByteArray) (cs : List S43) (k : Nat) (x L i a b c : Int) (hx : 0 ≤ x ∧ x ≤ 65536) (ha : 0 ≤ a) (hb : 0 ≤ b) (hc : 0 ≤ c) :
    grapnellaw16_large.l1 (k + 4) x L i [a, b, c] (([a, b, c] : List Int).length : Int) 0 es ts cs =
      if x + mn a 131072 + mn b 131072 + mn c 131072 > 65536 then some true else grapnellaw16_large.l0 k (x + mn a 131072 + mn b 131072 + mn c 131072) L (wrap64 (i + 1)) es ts cs := by
  have a1 := mn_range ha
  have b1 := mn_range hb
  have c1 := mn_range hc
  have r0 : rd [a, b, c] 0 = a := rfl
  have r1 : rd [a, b, c] 1 = b := rfl
  have r2 : rd [a, b, c] 2 = c := rfl
  have w1 : wrap64 ((0 : Int) + 1) = 1 := by unfold wrap64; omega
  have w2 : wrap64 ((1 : Int) + 1) = 2 := by unfold wrap64; omega
  have w3 : wrap64 ((2 : Int) + 1) = 3 := by unfold wrap64; omega
  rw [show (([a, b, c] : List Int).length : Int) = 3 from rfl]
  rw [grapnellaw16_large.l1.eq_2, if_pos (by omega), if_pos (by omega), if_pos (by simp), r0, w1, wrap_id (by omega) (by omega)]
  rw [grapnellaw16_large.l1.eq_2, if_pos (by omega), if_pos (by omega), if_pos (by simp), r1, w2, wrap_id (by omega) (by omega)]
  rw [grapnellaw16_large.l1.eq_2, if_pos (by omega), if_pos (by omega), if_pos (by simp), r2, w3, wrap_id (by omega) (by omega)]
  rw [grapnellaw16_large.l1.eq_2, if_neg (by omega)]
theorem large_l0 (es : List S45) (ts : List ByteArray) (cs : List S43) (he : es.length ≤ 300) (ht : ts.length ≤ 1100) (hc : cs.length ≤ 8100) : ∀ (d i : Nat) (x : Int), cs.length - i = d → i ≤ cs.length → 0 ≤ x → x ≤ 65536 →
    ∃ k b, grapnellaw16_large.l0 k x (cs.length : Int) i es ts cs = some b ∧ (b = false → ∀ j (h : j < cs.length), i ≤ j → cs[j].f3.length ≤ 65536 ∧ cs[j].f4.length ≤ 65536 ∧ cs[j].f5.length ≤ 65536) := by
  intro d
  induction d with
  | zero =>
    intro i x hd hi h0 h1
    obtain ⟨k, b, h⟩ := large_l2 es ts cs he ht ts.length 0 x (by omega) (by omega)
    exact ⟨k + 1, b, by rw [grapnellaw16_large.l0.eq_2, if_neg (by omega)]; exact h, fun _ j hj hij => by omega⟩
  | succ d ih =>
    intro i x hd hi h0 h1
    have hlt : i < cs.length := by omega
    have e2 : wrap64 ((i : Int) + 1) = ((i + 1 : Nat) : Int) := (wrap_id (by omega) (by omega)).trans (by omega)
    have er : rd_T43 cs (i : Int) = cs[i] := by simp [rd_T43, List.getD_eq_getElem?_getD, hlt]
    have a1 := mn_range (a := (cs[i].f3.length : Int)) (by omega)
    have b1 := mn_range (a := (cs[i].f4.length : Int)) (by omega)
    have c1 := mn_range (a := (cs[i].f5.length : Int)) (by omega)
    by_cases hbig : x + mn (cs[i].f3.length : Int) 131072 + mn (cs[i].f4.length : Int) 131072 + mn (cs[i].f5.length : Int) 131072 > 65536
    · refine ⟨0 + 4 + 1, true, ?_, fun e => by cases e⟩
      rw [grapnellaw16_large.l0.eq_2, if_pos (by omega), if_pos (by omega), if_pos (by omega), er, Option.bind_some, large_l1 es ts cs 0 x _ _ _ _ _ ⟨h0, h1⟩ (by omega) (by omega) (by omega), if_pos hbig]
    · obtain ⟨k, b, h, hs⟩ := ih (i + 1) (x + mn (cs[i].f3.length : Int) 131072 + mn (cs[i].f4.length : Int) 131072 + mn (cs[i].f5.length : Int) 131072) (by omega) (by omega) (by omega) (by omega)
      refine ⟨k + 4 + 1, b, ?_, fun hb j hj hij => ?_⟩
      · rw [grapnellaw16_large.l0.eq_2, if_pos (by omega), if_pos (by omega), if_pos (by omega), er, Option.bind_some, large_l1 es ts cs k x _ _ _ _ _ ⟨h0, h1⟩ (by omega) (by omega) (by omega), if_neg hbig, e2]
        exact h
      · by_cases hji : j = i
        · subst hji
          omega
        · exact hs hb j hj (by omega)
theorem large_f (es : List S45) (ts : List ByteArray) (cs : List S43) : ∃ k b, grapnellaw16_large.f k es ts cs = some b ∧ (b = false → Small cs) := by
  have ht : grapnellaw16_large.j0 1 true es ts cs = some true := rfl
  unfold grapnellaw16_large.f
  by_cases h1 : (cs.length : Int) > 8100
  · exact ⟨1, true, by rw [if_pos h1]; exact ht, fun e => by cases e⟩
  · by_cases h2 : (ts.length : Int) > 1100
    · exact ⟨1, true, by rw [if_neg h1, if_pos h2]; exact ht, fun e => by cases e⟩
    · by_cases h3 : (es.length : Int) > 300
      · exact ⟨1, true, by rw [if_neg h1, if_neg h2, decide_eq_true h3]; exact ht, fun e => by cases e⟩
      · obtain ⟨k, b, h, hs⟩ := large_l0 es ts cs (by omega) (by omega) (by omega) cs.length 0 0 (by omega) (by omega) (by omega) (by omega)
        refine ⟨k + 1, b, ?_, fun hb c hc => ?_⟩
        · rw [if_neg h1, if_neg h2, decide_eq_false h3]
          exact h
        · obtain ⟨j, hj, rfl⟩ := List.getElem_of_mem hc
          have := hs hb j hj (by omega)
          omega
theorem large_is (A0 : Option Addr) (c0 : Nat) (A1 : Option Addr) (c1 : Nat) (A2 : Option Addr) (c2 : Nat) (es : List S45) (ts : List ByteArray) (cs : List S43) : ∃ b : Bool, (b = false → Small cs) ∧ ∀ w, ImgAt w A0 c0 A1 c1 A2 c2 es ts cs →
    Calls Try.prog 10 #[imgV A0 c0 A1 c1 A2 c2 es ts cs] w fun e w' => e = .returned (.bool b) ∧ Below w.heap.size w w' := by
  obtain ⟨k, b, h, hs⟩ := large_f es ts cs
  exact ⟨b, hs, fun w hI => grapnellaw16_large.calls k A0 c0 es A1 c1 ts A2 c2 cs b w hI.r0 hI.l0 hI.r1 hI.l1 hI.r2 hI.l2 h⟩
end Go.Proofs.Ytmjafkhkoifopaa.C16
end
