-- PRINTED BY print.sh 35421559b90ae4d0a3588c463048766b98c2df88dd9212a6774a882060cdf62d: not written by this session
import Derived.Test.YtmjafkhkoifopaaPCodeDecodesx0
import Derived.Test.YtmjafkhkoifopaaPCodeDecodesx1
namespace Go.Proofs.Ytmjafkhkoifopaa.PCodeDecodes
open Go.RowKit Go.Proofs.YtmjafkhkoifopaaW.PrintWords Go.Proofs.YtmjafkhkoifopaaW.PrintLast Go.Proofs.YtmjafkhkoifopaaW.PrintMore
attribute [local go_sem] max2_int min2_int max_two min_two max_three min_three max_four min_four   -- for this text's walks alone
set_option linter.unusedVariables false
set_option linter.unusedSimpArgs false

/-! ### code_number: function 41 -/
mutual
def code_number.j0 : Nat → Int → Bool → Int → Int → Int → List Int → List Int → List Int → Option (Bool)
  | 0, _, _, _, _, _, _, _, _ => none
  | k + 1, x6, x21, x106000, x106001, x106002, x106003, x106004, x106005 => if x21 = true then ((code_within.f x106001 0 8192).bind fun t108 => (some t108)) else (if x6 = 4 then (code_number.j1 k x6 (x6 == 4) x106000 x106001 x106002 x106003 x106004 x106005) else (if x6 = 18 then (code_number.j1 k x6 (x6 == 18) x106000 x106001 x106002 x106003 x106004 x106005) else (if x6 = 19 then (code_number.j1 k x6 (x6 == 19) x106000 x106001 x106002 x106003 x106004 x106005) else (code_number.j1 k x6 (x6 == 15) x106000 x106001 x106002 x106003 x106004 x106005))))
def code_number.j1 : Nat → Int → Bool → Int → Int → Int → List Int → List Int → List Int → Option (Bool)
  | 0, _, _, _, _, _, _, _, _ => none
  | k + 1, x6, x29, x106000, x106001, x106002, x106003, x106004, x106005 => if x29 = true then ((code_within.f x106001 0 4095).bind fun t109 => (some t109)) else (if x6 = 5 then ((code_within.f x106001 (-100) 100).bind fun t110 => (some t110)) else (if x6 = 10 then (code_number.j2 k x6 (x6 == 10) x106000 x106001 x106002 x106003 x106004 x106005) else (code_number.j2 k x6 (x6 == 13) x106000 x106001 x106002 x106003 x106004 x106005)))
def code_number.j2 : Nat → Int → Bool → Int → Int → Int → List Int → List Int → List Int → Option (Bool)
  | 0, _, _, _, _, _, _, _, _ => none
  | k + 1, x6, x42, x106000, x106001, x106002, x106003, x106004, x106005 => if x42 = true then ((code_within.f x106001 1 30).bind fun t111 => (some t111)) else (if x6 = 11 then ((code_within.f x106001 1 30).bind fun t112 => (if t112 = true then ((code_within.f x106002 0 8192).bind fun t113 => (some t113)) else (some false))) else (if x6 = 16 then ((code_within.f x106001 0 4036).bind fun t114 => (some t114)) else (if x6 = 17 then ((code_within.f x106001 0 199).bind fun t115 => (if t115 = true then ((code_within.f x106002 0 4096).bind fun t116 => (some t116)) else (some false))) else (if x6 = 22 then ((code_within.f x106001 1 11).bind fun t117 => (if t117 = true then (some true) else ((code_within.f x106001 31 42).bind fun t118 => (some t118)))) else (if x6 = 23 then ((code_within.f x106001 1 12).bind fun t119 => (some t119)) else (some (x106001 == 0)))))))
end
def code_number.f (k : Nat) (l0_0 : List (S45)) (l0_1 : List ByteArray) (l0_2 : List (S43)) (a1_0 : Int) (a1_1 : Int) (a1_2 : Int) (l1_3 : List Int) (l1_4 : List Int) (l1_5 : List Int) : Option (Bool) := if a1_0 = 1 then ((code_within.f a1_1 (-4611686018427387904) 4611686018427387903).bind fun t106 => (some t106)) else (if a1_0 = 2 then ((code_within.f a1_1 0 (wrap64 ((l0_1.length : Int) - 1))).bind fun t107 => (some t107)) else (if a1_0 = 3 then (code_number.j0 k a1_0 (a1_0 == 3) a1_0 a1_1 a1_2 l1_3 l1_4 l1_5) else (if a1_0 = 7 then (code_number.j0 k a1_0 (a1_0 == 7) a1_0 a1_1 a1_2 l1_3 l1_4 l1_5) else (if a1_0 = 8 then (code_number.j0 k a1_0 (a1_0 == 8) a1_0 a1_1 a1_2 l1_3 l1_4 l1_5) else (code_number.j0 k a1_0 (a1_0 == 14) a1_0 a1_1 a1_2 l1_3 l1_4 l1_5)))))
theorem code_number.mono_l : ∀ k, (∀ y0 y1 y2 y3 y4 y5 y6 y7, LeO (code_number.j0 k y0 y1 y2 y3 y4 y5 y6 y7) (code_number.j0 (k + 1) y0 y1 y2 y3 y4 y5 y6 y7)) ∧ (∀ y0 y1 y2 y3 y4 y5 y6 y7, LeO (code_number.j1 k y0 y1 y2 y3 y4 y5 y6 y7) (code_number.j1 (k + 1) y0 y1 y2 y3 y4 y5 y6 y7)) ∧ (∀ y0 y1 y2 y3 y4 y5 y6 y7, LeO (code_number.j2 k y0 y1 y2 y3 y4 y5 y6 y7) (code_number.j2 (k + 1) y0 y1 y2 y3 y4 y5 y6 y7))
  | 0 => ⟨fun _ _ _ _ _ _ _ _ r h => by simp [code_number.j0] at h, fun _ _ _ _ _ _ _ _ r h => by simp [code_number.j1] at h, fun _ _ _ _ _ _ _ _ r h => by simp [code_number.j2] at h⟩
  | k + 1 => by
    obtain ⟨ih0, ih1, ih2⟩ := code_number.mono_l k
    refine ⟨?_, ?_, ?_⟩
    · intro y0 y1 y2 y3 y4 y5 y6 y7
      unfold code_number.j0
      repeat' first
      | (with_reducible exact ih0 _ _ _ _ _ _ _ _)
      | (with_reducible exact ih1 _ _ _ _ _ _ _ _)
      | (with_reducible exact ih2 _ _ _ _ _ _ _ _)
      | (with_reducible exact LeO.refl _)
      | (with_reducible exact LeO.none _)
      | (with_reducible refine LeO.ite ?_ ?_)
      | (with_reducible refine LeO.bind ?_ (fun _ => ?_))
      | exact ih0 _ _ _ _ _ _ _ _
      | exact ih1 _ _ _ _ _ _ _ _
      | exact ih2 _ _ _ _ _ _ _ _
      | exact LeO.none _
      | refine LeO.ite ?_ ?_
      | refine LeO.bind ?_ (fun _ => ?_)
    · intro y0 y1 y2 y3 y4 y5 y6 y7
      unfold code_number.j1
      repeat' first
      | (with_reducible exact ih0 _ _ _ _ _ _ _ _)
      | (with_reducible exact ih1 _ _ _ _ _ _ _ _)
      | (with_reducible exact ih2 _ _ _ _ _ _ _ _)
      | (with_reducible exact LeO.refl _)
      | (with_reducible exact LeO.none _)
      | (with_reducible refine LeO.ite ?_ ?_)
      | (with_reducible refine LeO.bind ?_ (fun _ => ?_))
      | exact ih0 _ _ _ _ _ _ _ _
      | exact ih1 _ _ _ _ _ _ _ _
      | exact ih2 _ _ _ _ _ _ _ _
      | exact LeO.none _
      | refine LeO.ite ?_ ?_
      | refine LeO.bind ?_ (fun _ => ?_)
    · intro y0 y1 y2 y3 y4 y5 y6 y7
      unfold code_number.j2
      repeat' first
      | (with_reducible exact ih0 _ _ _ _ _ _ _ _)
      | (with_reducible exact ih1 _ _ _ _ _ _ _ _)
      | (with_reducible exact ih2 _ _ _ _ _ _ _ _)
      | (with_reducible exact LeO.refl _)
      | (with_reducible exact LeO.none _)
      | (with_reducible refine LeO.ite ?_ ?_)
      | (with_reducible refine LeO.bind ?_ (fun _ => ?_))
      | exact ih0 _ _ _ _ _ _ _ _
      | exact ih1 _ _ _ _ _ _ _ _
      | exact ih2 _ _ _ _ _ _ _ _
      | exact LeO.none _
      | refine LeO.ite ?_ ?_
      | refine LeO.bind ?_ (fun _ => ?_)
theorem code_number.mono : ∀ a0 a1 a2 a3 a4 a5 a6 a7 a8 k, LeO (code_number.f k a0 a1 a2 a3 a4 a5 a6 a7 a8) (code_number.f (k + 1) a0 a1 a2 a3 a4 a5 a6 a7 a8) := by
  intro a0 a1 a2 a3 a4 a5 a6 a7 a8 k
  obtain ⟨ih0, ih1, ih2⟩ := code_number.mono_l k
  unfold code_number.f
  repeat' first
      | (with_reducible exact ih0 _ _ _ _ _ _ _ _)
      | (with_reducible exact ih1 _ _ _ _ _ _ _ _)
      | (with_reducible exact ih2 _ _ _ _ _ _ _ _)
      | (with_reducible exact LeO.refl _)
      | (with_reducible exact LeO.none _)
      | (with_reducible refine LeO.ite ?_ ?_)
      | (with_reducible refine LeO.bind ?_ (fun _ => ?_))
      | exact ih0 _ _ _ _ _ _ _ _
      | exact ih1 _ _ _ _ _ _ _ _
      | exact ih2 _ _ _ _ _ _ _ _
      | exact LeO.none _
      | refine LeO.ite ?_ ?_
      | refine LeO.bind ?_ (fun _ => ?_)
set_option maxHeartbeats 8000000 in
set_option maxRecDepth 100000 in
theorem code_number.calls (k : Nat) (A0_0 : Option Addr) (c0_0 : Nat) (l0_0 : List (S45)) (A0_1 : Option Addr) (c0_1 : Nat) (l0_1 : List ByteArray) (A0_2 : Option Addr) (c0_2 : Nat) (l0_2 : List (S43)) (a1_0 : Int) (a1_1 : Int) (a1_2 : Int) (A1_3 : Option Addr) (c1_3 : Nat) (l1_3 : List Int) (A1_4 : Option Addr) (c1_4 : Nat) (l1_4 : List Int) (A1_5 : Option Addr) (c1_5 : Nat) (l1_5 : List Int) (r : Bool) (w : World) (hr0_0 : Kd.C k45 w A0_0 l0_0.length l0_0) (hc0_0 : l0_0.length ≤ c0_0) (hr0_1 : Kd.C Kd.string w A0_1 l0_1.length l0_1) (hc0_1 : l0_1.length ≤ c0_1) (hr0_2 : Kd.C k43 w A0_2 l0_2.length l0_2) (hc0_2 : l0_2.length ≤ c0_2) (hr1_3 : Kd.C (Kd.int .i64) w A1_3 l1_3.length l1_3) (hc1_3 : l1_3.length ≤ c1_3) (hr1_4 : Kd.C (Kd.int .i64) w A1_4 l1_4.length l1_4) (hc1_4 : l1_4.length ≤ c1_4) (hr1_5 : Kd.C (Kd.int .i64) w A1_5 l1_5.length l1_5) (hc1_5 : l1_5.length ≤ c1_5) (h : code_number.f k l0_0 l0_1 l0_2 a1_0 a1_1 a1_2 l1_3 l1_4 l1_5 = some r) :
    Calls Try.prog 41 #[.agg #[.slice A0_0 l0_0.length c0_0, .slice A0_1 l0_1.length c0_1, .slice A0_2 l0_2.length c0_2], .agg #[.int .i64 a1_0, .int .i64 a1_1, .int .i64 a1_2, .slice A1_3 l1_3.length c1_3, .slice A1_4 l1_4.length c1_4, .slice A1_5 l1_5.length c1_5]] w fun e w' => e = .returned (.bool r) ∧ Below w.heap.size w w' := by
  have hu26 := Try.underlying26
  have hu43 := Try.underlying43
  have HR0_0 := Aside0.mk hr0_0
  have HC0_0 := Aside0.mk hc0_0
  clear hr0_0 hc0_0
  have HR0_1 := Aside0.mk hr0_1
  have HC0_1 := Aside0.mk hc0_1
  clear hr0_1 hc0_1
  have HR0_2 := Aside0.mk hr0_2
  have HC0_2 := Aside0.mk hc0_2
  clear hr0_2 hc0_2
  have HR1_3 := Aside0.mk hr1_3
  have HC1_3 := Aside0.mk hc1_3
  clear hr1_3 hc1_3
  have HR1_4 := Aside0.mk hr1_4
  have HC1_4 := Aside0.mk hc1_4
  clear hr1_4 hc1_4
  have HR1_5 := Aside0.mk hr1_5
  have HC1_5 := Aside0.mk hc1_5
  clear hr1_5 hc1_5
  have HB := Aside0.mk (Below.refl w.heap.size w)
  have H : (if a1_0 = 1 then ((code_within.f a1_1 (-4611686018427387904) 4611686018427387903).bind fun t106 => (some t106)) else (if a1_0 = 2 then ((code_within.f a1_1 0 (wrap64 ((l0_1.length : Int) - 1))).bind fun t107 => (some t107)) else (if a1_0 = 3 then (code_number.j0 k a1_0 (a1_0 == 3) a1_0 a1_1 a1_2 l1_3 l1_4 l1_5) else (if a1_0 = 7 then (code_number.j0 k a1_0 (a1_0 == 7) a1_0 a1_1 a1_2 l1_3 l1_4 l1_5) else (if a1_0 = 8 then (code_number.j0 k a1_0 (a1_0 == 8) a1_0 a1_1 a1_2 l1_3 l1_4 l1_5) else (code_number.j0 k a1_0 (a1_0 == 14) a1_0 a1_1 a1_2 l1_3 l1_4 l1_5)))))) = some r := h
  clear h
  by_cases c3 : a1_0 = 1
  · rw [if_pos c3] at H
    have c3b0 : (a1_0 == 1) = true := beq_iff_eq.mpr c3
    have c3b1 : (a1_0 != 1) = false := bne_eq_false_iff_eq.mpr c3
    clear c3
    replace H := Option.bind_eq_some_iff.mp H
    obtain ⟨t106, A40, H⟩ := H
    replace H : (some t106) = some r := H
    have A4 := Aside0.mk A40
    clear A40
    obtain rfl := Option.some.inj H
    go_enter Try.func41, Try.ntmps41
    go_wp2_with (first | ((with_reducible refine gate_dst (N := 2) rfl ?_); refine box_event ?hg (N := 2) ?hd (cs := #[.slice A0_0 l0_0.length c0_0, .slice A0_1 l0_1.length c0_1, .slice A0_2 l0_2.length c0_2]) (t := 26) ?hr ?_; (case hd => rfl); (case hg => rfl); (case hr => first | (go_simp; done) | (go_simp; rfl)); intro gb104 hg w5 hbox hb; have n0_ := Aside0.mk (below_step (by repeat (first | (with_reducible first | exact HB.out | apply below_alloc | apply pw_below_drewN | apply below_drew1) | exact HB.out)) hb); have n1_ := Aside0.mk (hbox); have n2_ := Aside0.mk ((by rw [hg]; exact (below_size (by repeat (first | (with_reducible first | exact HB.out | apply below_alloc | apply pw_below_drewN | apply below_drew1) | exact HB.out))) : w.heap.size ≤ gb104)); have n3_ := Aside0.mk ((by rw [hg]; exact (below_size (by repeat (first | (with_reducible first | exact HB.out | apply below_alloc | apply pw_below_drewN | apply below_drew1) | exact HB.out))) : w.heap.size ≤ gb104)); clear HB; have HB := n0_; have BK104 := n1_; have GW104 := n2_; have GE104 := n3_; clear n0_ n1_ n2_ n3_; clear hb hbox hg) | ((with_reducible refine gate_dst (N := 3) rfl ?_); refine box_event ?hg (N := 3) ?hd (cs := #[.int .i64 a1_0, .int .i64 a1_1, .int .i64 a1_2, .slice A1_3 l1_3.length c1_3, .slice A1_4 l1_4.length c1_4, .slice A1_5 l1_5.length c1_5]) (t := 43) ?hr ?_; (case hd => rfl); (case hg => rfl); (case hr => first | (go_simp; done) | (go_simp; rfl)); intro gb105 hg w6 hbox hb; have n0_ := Aside0.mk (blk_below (g := gb104) (o := .cells #[.slice A0_0 l0_0.length c0_0, .slice A0_1 l0_1.length c0_1, .slice A0_2 l0_2.length c0_2] 26 (0, 0)) (by (with_reducible repeat (first | refine blk_drewN ?_ _ | refine blk_drew ?_ | refine blk_alloc ?_ _)); exact BK104.out) hb); have n1_ := Aside0.mk (below_step (by repeat (first | (with_reducible first | exact HB.out | apply below_alloc | apply pw_below_drewN | apply below_drew1 | refine below_set ?_ GE104.out) | exact HB.out)) hb); have n2_ := Aside0.mk (hbox); have n3_ := Aside0.mk ((by rw [hg]; exact (below_size (by repeat (first | (with_reducible first | exact HB.out | apply below_alloc | apply pw_below_drewN | apply below_drew1 | refine below_set ?_ GE104.out) | exact HB.out))) : w.heap.size ≤ gb105)); have n4_ := Aside0.mk ((by rw [hg]; exact (below_size (by repeat (first | (with_reducible first | exact HB.out | apply below_alloc | apply pw_below_drewN | apply below_drew1 | refine below_set ?_ GE104.out) | exact HB.out))) : w.heap.size ≤ gb105)); have n5_ := Aside0.mk ((by rw [hg]; exact Nat.ne_of_lt (blk_lt (g := gb104) (o := .cells #[.slice A0_0 l0_0.length c0_0, .slice A0_1 l0_1.length c0_1, .slice A0_2 l0_2.length c0_2] 26 (0, 0)) (by (with_reducible repeat (first | refine blk_drewN ?_ _ | refine blk_drew ?_ | refine blk_alloc ?_ _)); exact BK104.out)) : gb104 ≠ gb105)); have n6_ := Aside0.mk ((by rw [hg]; exact Nat.ne_of_gt (blk_lt (g := gb104) (o := .cells #[.slice A0_0 l0_0.length c0_0, .slice A0_1 l0_1.length c0_1, .slice A0_2 l0_2.length c0_2] 26 (0, 0)) (by (with_reducible repeat (first | refine blk_drewN ?_ _ | refine blk_drew ?_ | refine blk_alloc ?_ _)); exact BK104.out)) : gb105 ≠ gb104)); clear BK104; clear HB; have BK104 := n0_; have HB := n1_; have BK105 := n2_; have GW105 := n3_; have GE105 := n4_; have NB104_105 := n5_; have NB105_104 := n6_; clear n0_ n1_ n2_ n3_ n4_ n5_ n6_; clear hb hbox hg; have hnb7 := NB105_104.out; have hnc7 := NB104_105.out; have hcz8_0 : w6.cell? ⟨gb105, 0, none⟩ = some (.int .i64 a1_0) := (blk_cell BK105.out 0).trans rfl; have hcz8_1 : w6.cell? ⟨gb105, 1, none⟩ = some (.int .i64 a1_1) := (blk_cell BK105.out 1).trans rfl; have hcz8_2 : w6.cell? ⟨gb105, 2, none⟩ = some (.int .i64 a1_2) := (blk_cell BK105.out 2).trans rfl; have hcz8_3 : w6.cell? ⟨gb105, 3, none⟩ = some (.slice A1_3 l1_3.length c1_3) := (blk_cell BK105.out 3).trans rfl; have hcz8_4 : w6.cell? ⟨gb105, 4, none⟩ = some (.slice A1_4 l1_4.length c1_4) := (blk_cell BK105.out 4).trans rfl; have hcz8_5 : w6.cell? ⟨gb105, 5, none⟩ = some (.slice A1_5 l1_5.length c1_5) := (blk_cell BK105.out 5).trans rfl; have hfz8_0 := blk_frozen BK105.out 0; have hfz8_1 := blk_frozen BK105.out 1; have hfz8_2 := blk_frozen BK105.out 2; have hfz8_3 := blk_frozen BK105.out 3; have hfz8_4 := blk_frozen BK105.out 4; have hfz8_5 := blk_frozen BK105.out 5) | ((with_reducible refine gate_callee (f := 55) rfl ?_); refine goesL_ (some 11) rfl rfl Try.func55 (by kernel_rfl) rfl #[.int .i64 a1_1, .int .i64 (-4611686018427387904), .int .i64 4611686018427387903] rfl (by (try simp only [List.map_toArray, List.map_cons, List.map_nil]); first | done | rfl | (simp only [List.length_drop, List.length_take]; rfl)) ?_; (with_reducible refine (code_within.calls a1_1 (-4611686018427387904) 4611686018427387903 t106 _ A4.out).mono ?_); rintro e w' ⟨rfl, ⟨nd, rfl⟩⟩; refine ⟨_, rfl, ?_⟩))
    go_ret
    exact ⟨by first | rfl | (simp [errW_none, errW_some] <;> rfl) | (simp [*, errW_none, errW_some] <;> rfl), by repeat (first | (with_reducible first | exact HB.out | apply below_alloc | apply pw_below_drewN | apply below_drew1 | refine below_set ?_ GE104.out | refine below_set ?_ GE105.out) | exact HB.out)⟩
  · rw [if_neg c3] at H
    have c3b0 : (a1_0 == 1) = false := beq_eq_false_iff_ne.mpr c3
    have c3b1 : (a1_0 != 1) = true := bne_iff_ne.mpr c3
    by_cases c9 : a1_0 = 2
    · rw [if_pos c9] at H
      have c9b0 : (a1_0 == 2) = true := beq_iff_eq.mpr c9
      have c9b1 : (a1_0 != 2) = false := bne_eq_false_iff_eq.mpr c9
      clear c9
      replace H := Option.bind_eq_some_iff.mp H
      obtain ⟨t107, A100, H⟩ := H
      replace H : (some t107) = some r := H
      have A10 := Aside0.mk A100
      clear A100
      obtain rfl := Option.some.inj H
      go_enter Try.func41, Try.ntmps41
      go_wp2_with (first | ((with_reducible refine gate_dst (N := 2) rfl ?_); refine box_event ?hg (N := 2) ?hd (cs := #[.slice A0_0 l0_0.length c0_0, .slice A0_1 l0_1.length c0_1, .slice A0_2 l0_2.length c0_2]) (t := 26) ?hr ?_; (case hd => rfl); (case hg => rfl); (case hr => first | (go_simp; done) | (go_simp; rfl)); intro gb104 hg w11 hbox hb; have n0_ := Aside0.mk (below_step (by repeat (first | (with_reducible first | exact HB.out | apply below_alloc | apply pw_below_drewN | apply below_drew1) | exact HB.out)) hb); have n1_ := Aside0.mk (hbox); have n2_ := Aside0.mk ((by rw [hg]; exact (below_size (by repeat (first | (with_reducible first | exact HB.out | apply below_alloc | apply pw_below_drewN | apply below_drew1) | exact HB.out))) : w.heap.size ≤ gb104)); have n3_ := Aside0.mk ((by rw [hg]; exact (below_size (by repeat (first | (with_reducible first | exact HB.out | apply below_alloc | apply pw_below_drewN | apply below_drew1) | exact HB.out))) : w.heap.size ≤ gb104)); clear HB; have HB := n0_; have BK104 := n1_; have GW104 := n2_; have GE104 := n3_; clear n0_ n1_ n2_ n3_; clear hb hbox hg) | ((with_reducible refine gate_dst (N := 3) rfl ?_); refine box_event ?hg (N := 3) ?hd (cs := #[.int .i64 a1_0, .int .i64 a1_1, .int .i64 a1_2, .slice A1_3 l1_3.length c1_3, .slice A1_4 l1_4.length c1_4, .slice A1_5 l1_5.length c1_5]) (t := 43) ?hr ?_; (case hd => rfl); (case hg => rfl); (case hr => first | (go_simp; done) | (go_simp; rfl)); intro gb105 hg w12 hbox hb; have n0_ := Aside0.mk (blk_below (g := gb104) (o := .cells #[.slice A0_0 l0_0.length c0_0, .slice A0_1 l0_1.length c0_1, .slice A0_2 l0_2.length c0_2] 26 (0, 0)) (by (with_reducible repeat (first | refine blk_drewN ?_ _ | refine blk_drew ?_ | refine blk_alloc ?_ _)); exact BK104.out) hb); have n1_ := Aside0.mk (below_step (by repeat (first | (with_reducible first | exact HB.out | apply below_alloc | apply pw_below_drewN | apply below_drew1 | refine below_set ?_ GE104.out) | exact HB.out)) hb); have n2_ := Aside0.mk (hbox); have n3_ := Aside0.mk ((by rw [hg]; exact (below_size (by repeat (first | (with_reducible first | exact HB.out | apply below_alloc | apply pw_below_drewN | apply below_drew1 | refine below_set ?_ GE104.out) | exact HB.out))) : w.heap.size ≤ gb105)); have n4_ := Aside0.mk ((by rw [hg]; exact (below_size (by repeat (first | (with_reducible first | exact HB.out | apply below_alloc | apply pw_below_drewN | apply below_drew1 | refine below_set ?_ GE104.out) | exact HB.out))) : w.heap.size ≤ gb105)); have n5_ := Aside0.mk ((by rw [hg]; exact Nat.ne_of_lt (blk_lt (g := gb104) (o := .cells #[.slice A0_0 l0_0.length c0_0, .slice A0_1 l0_1.length c0_1, .slice A0_2 l0_2.length c0_2] 26 (0, 0)) (by (with_reducible repeat (first | refine blk_drewN ?_ _ | refine blk_drew ?_ | refine blk_alloc ?_ _)); exact BK104.out)) : gb104 ≠ gb105)); have n6_ := Aside0.mk ((by rw [hg]; exact Nat.ne_of_gt (blk_lt (g := gb104) (o := .cells #[.slice A0_0 l0_0.length c0_0, .slice A0_1 l0_1.length c0_1, .slice A0_2 l0_2.length c0_2] 26 (0, 0)) (by (with_reducible repeat (first | refine blk_drewN ?_ _ | refine blk_drew ?_ | refine blk_alloc ?_ _)); exact BK104.out)) : gb105 ≠ gb104)); clear BK104; clear HB; have BK104 := n0_; have HB := n1_; have BK105 := n2_; have GW105 := n3_; have GE105 := n4_; have NB104_105 := n5_; have NB105_104 := n6_; clear n0_ n1_ n2_ n3_ n4_ n5_ n6_; clear hb hbox hg; have hnb13 := NB105_104.out; have hnc13 := NB104_105.out; have hcz14_0 : w12.cell? ⟨gb105, 0, none⟩ = some (.int .i64 a1_0) := (blk_cell BK105.out 0).trans rfl; have hcz14_1 : w12.cell? ⟨gb105, 1, none⟩ = some (.int .i64 a1_1) := (blk_cell BK105.out 1).trans rfl; have hcz14_2 : w12.cell? ⟨gb105, 2, none⟩ = some (.int .i64 a1_2) := (blk_cell BK105.out 2).trans rfl; have hcz14_3 : w12.cell? ⟨gb105, 3, none⟩ = some (.slice A1_3 l1_3.length c1_3) := (blk_cell BK105.out 3).trans rfl; have hcz14_4 : w12.cell? ⟨gb105, 4, none⟩ = some (.slice A1_4 l1_4.length c1_4) := (blk_cell BK105.out 4).trans rfl; have hcz14_5 : w12.cell? ⟨gb105, 5, none⟩ = some (.slice A1_5 l1_5.length c1_5) := (blk_cell BK105.out 5).trans rfl; have hfz14_0 := blk_frozen BK105.out 0; have hfz14_1 := blk_frozen BK105.out 1; have hfz14_2 := blk_frozen BK105.out 2; have hfz14_3 := blk_frozen BK105.out 3; have hfz14_4 := blk_frozen BK105.out 4; have hfz14_5 := blk_frozen BK105.out 5; have hcz15_0 : w12.cell? ⟨gb104, 0, none⟩ = some (.slice A0_0 l0_0.length c0_0) := (blk_cell BK104.out 0).trans rfl; have hcz15_1 : w12.cell? ⟨gb104, 1, none⟩ = some (.slice A0_1 l0_1.length c0_1) := (blk_cell BK104.out 1).trans rfl; have hcz15_2 : w12.cell? ⟨gb104, 2, none⟩ = some (.slice A0_2 l0_2.length c0_2) := (blk_cell BK104.out 2).trans rfl; have hfz15_0 := blk_frozen BK104.out 0; have hfz15_1 := blk_frozen BK104.out 1; have hfz15_2 := blk_frozen BK104.out 2) | ((with_reducible refine gate_callee (f := 55) rfl ?_); refine goesL_ (some 20) rfl rfl Try.func55 (by kernel_rfl) rfl #[.int .i64 a1_1, .int .i64 0, .int .i64 (wrap64 ((l0_1.length : Int) - 1))] rfl (by (try simp only [List.map_toArray, List.map_cons, List.map_nil]); first | done | rfl | (simp only [List.length_drop, List.length_take]; rfl)) ?_; (with_reducible refine (code_within.calls a1_1 0 (wrap64 ((l0_1.length : Int) - 1)) t107 _ A10.out).mono ?_); rintro e w' ⟨rfl, ⟨nd, rfl⟩⟩; refine ⟨_, rfl, ?_⟩))
      go_ret
      exact ⟨by first | rfl | (simp [errW_none, errW_some] <;> rfl) | (simp [*, errW_none, errW_some] <;> rfl), by repeat (first | (with_reducible first | exact HB.out | apply below_alloc | apply pw_below_drewN | apply below_drew1 | refine below_set ?_ GE104.out | refine below_set ?_ GE105.out) | exact HB.out)⟩
    · rw [if_neg c9] at H
      have c9b0 : (a1_0 == 2) = false := beq_eq_false_iff_ne.mpr c9
      have c9b1 : (a1_0 != 2) = true := bne_iff_ne.mpr c9
      have HC16 := Aside0.mk H
      clear H
      go_enter Try.func41, Try.ntmps41
      go_upto_if 21 with (first | ((with_reducible refine gate_dst (N := 2) rfl ?_); refine box_event ?hg (N := 2) ?hd (cs := #[.slice A0_0 l0_0.length c0_0, .slice A0_1 l0_1.length c0_1, .slice A0_2 l0_2.length c0_2]) (t := 26) ?hr ?_; (case hd => rfl); (case hg => rfl); (case hr => first | (go_simp; done) | (go_simp; rfl)); intro gb104 hg w17 hbox hb; have n0_ := Aside0.mk (below_step (by repeat (first | (with_reducible first | exact HB.out | apply below_alloc | apply pw_below_drewN | apply below_drew1) | exact HB.out)) hb); have n1_ := Aside0.mk (hbox); have n2_ := Aside0.mk ((by rw [hg]; exact (below_size (by repeat (first | (with_reducible first | exact HB.out | apply below_alloc | apply pw_below_drewN | apply below_drew1) | exact HB.out))) : w.heap.size ≤ gb104)); have n3_ := Aside0.mk ((by rw [hg]; exact (below_size (by repeat (first | (with_reducible first | exact HB.out | apply below_alloc | apply pw_below_drewN | apply below_drew1) | exact HB.out))) : w.heap.size ≤ gb104)); clear HB; have HB := n0_; have BK104 := n1_; have GW104 := n2_; have GE104 := n3_; clear n0_ n1_ n2_ n3_; clear hb hbox hg) | ((with_reducible refine gate_dst (N := 3) rfl ?_); refine box_event ?hg (N := 3) ?hd (cs := #[.int .i64 a1_0, .int .i64 a1_1, .int .i64 a1_2, .slice A1_3 l1_3.length c1_3, .slice A1_4 l1_4.length c1_4, .slice A1_5 l1_5.length c1_5]) (t := 43) ?hr ?_; (case hd => rfl); (case hg => rfl); (case hr => first | (go_simp; done) | (go_simp; rfl)); intro gb105 hg w18 hbox hb; have n0_ := Aside0.mk (blk_below (g := gb104) (o := .cells #[.slice A0_0 l0_0.length c0_0, .slice A0_1 l0_1.length c0_1, .slice A0_2 l0_2.length c0_2] 26 (0, 0)) (by (with_reducible repeat (first | refine blk_drewN ?_ _ | refine blk_drew ?_ | refine blk_alloc ?_ _)); exact BK104.out) hb); have n1_ := Aside0.mk (below_step (by repeat (first | (with_reducible first | exact HB.out | apply below_alloc | apply pw_below_drewN | apply below_drew1 | refine below_set ?_ GE104.out) | exact HB.out)) hb); have n2_ := Aside0.mk (hbox); have n3_ := Aside0.mk ((by rw [hg]; exact (below_size (by repeat (first | (with_reducible first | exact HB.out | apply below_alloc | apply pw_below_drewN | apply below_drew1 | refine below_set ?_ GE104.out) | exact HB.out))) : w.heap.size ≤ gb105)); have n4_ := Aside0.mk ((by rw [hg]; exact (below_size (by repeat (first | (with_reducible first | exact HB.out | apply below_alloc | apply pw_below_drewN | apply below_drew1 | refine below_set ?_ GE104.out) | exact HB.out))) : w.heap.size ≤ gb105)); have n5_ := Aside0.mk ((by rw [hg]; exact Nat.ne_of_lt (blk_lt (g := gb104) (o := .cells #[.slice A0_0 l0_0.length c0_0, .slice A0_1 l0_1.length c0_1, .slice A0_2 l0_2.length c0_2] 26 (0, 0)) (by (with_reducible repeat (first | refine blk_drewN ?_ _ | refine blk_drew ?_ | refine blk_alloc ?_ _)); exact BK104.out)) : gb104 ≠ gb105)); have n6_ := Aside0.mk ((by rw [hg]; exact Nat.ne_of_gt (blk_lt (g := gb104) (o := .cells #[.slice A0_0 l0_0.length c0_0, .slice A0_1 l0_1.length c0_1, .slice A0_2 l0_2.length c0_2] 26 (0, 0)) (by (with_reducible repeat (first | refine blk_drewN ?_ _ | refine blk_drew ?_ | refine blk_alloc ?_ _)); exact BK104.out)) : gb105 ≠ gb104)); clear BK104; clear HB; have BK104 := n0_; have HB := n1_; have BK105 := n2_; have GW105 := n3_; have GE105 := n4_; have NB104_105 := n5_; have NB105_104 := n6_; clear n0_ n1_ n2_ n3_ n4_ n5_ n6_; clear hb hbox hg; have hnb19 := NB105_104.out; have hnc19 := NB104_105.out; have hcz20_0 : w18.cell? ⟨gb105, 0, none⟩ = some (.int .i64 a1_0) := (blk_cell BK105.out 0).trans rfl; have hcz20_1 : w18.cell? ⟨gb105, 1, none⟩ = some (.int .i64 a1_1) := (blk_cell BK105.out 1).trans rfl; have hcz20_2 : w18.cell? ⟨gb105, 2, none⟩ = some (.int .i64 a1_2) := (blk_cell BK105.out 2).trans rfl; have hcz20_3 : w18.cell? ⟨gb105, 3, none⟩ = some (.slice A1_3 l1_3.length c1_3) := (blk_cell BK105.out 3).trans rfl; have hcz20_4 : w18.cell? ⟨gb105, 4, none⟩ = some (.slice A1_4 l1_4.length c1_4) := (blk_cell BK105.out 4).trans rfl; have hcz20_5 : w18.cell? ⟨gb105, 5, none⟩ = some (.slice A1_5 l1_5.length c1_5) := (blk_cell BK105.out 5).trans rfl; have hfz20_0 := blk_frozen BK105.out 0; have hfz20_1 := blk_frozen BK105.out 1; have hfz20_2 := blk_frozen BK105.out 2; have hfz20_3 := blk_frozen BK105.out 3; have hfz20_4 := blk_frozen BK105.out 4; have hfz20_5 := blk_frozen BK105.out 5))
      (try simp only [Act.put, List.setIfInBounds_toArray, List.set_cons_zero, List.set_cons_succ])
      go_cut [21] (fun v21 wc => ∃ (kq : Nat) (x21_15 : Bool), v21 = .bool x21_15 ∧ Aside0 (code_number.j0 kq a1_0 x21_15 a1_0 a1_1 a1_2 l1_3 l1_4 l1_5 = some r) ∧ Aside0 (kq ≤ k) ∧ Aside0 (wc.heap[gb104]? = some (.cells #[(.slice A0_0 l0_0.length c0_0), (.slice A0_1 l0_1.length c0_1), (.slice A0_2 l0_2.length c0_2)] 26 (0, 0))) ∧ Aside0 (wc.heap[gb105]? = some (.cells #[.int .i64 a1_0, .int .i64 a1_1, .int .i64 a1_2, (.slice A1_3 l1_3.length c1_3), (.slice A1_4 l1_4.length c1_4), (.slice A1_5 l1_5.length c1_5)] 43 (0, 0))) ∧ Aside0 (Below w.heap.size w wc))
      case first =>
        have H := HC16.out
        clear HC16
        by_cases c21 : a1_0 = 3
        · rw [if_pos c21] at H
          have c21b0 : (a1_0 == 3) = true := beq_iff_eq.mpr c21
          have c21b1 : (a1_0 != 3) = false := bne_eq_false_iff_eq.mpr c21
          clear c21
          (first | rw [c21b0] | (simp only [i64_w, i32_w]; rw [c21b0]) | skip)
          have H' := Aside0.mk H
          clear H
          go_wp2
          go_meet
          case rel => exact ⟨_, ((a1_0 == 3)), (by first | rfl | (simp; done) | (simp [*]; done)), H', ⟨by first | omega | exact Nat.le_refl _⟩, ⟨by (with_reducible repeat (first | refine blk_drewN ?_ _ | refine blk_drew ?_ | refine blk_alloc ?_ _)); exact BK104.out⟩, ⟨by (with_reducible repeat (first | refine blk_drewN ?_ _ | refine blk_drew ?_ | refine blk_alloc ?_ _)); exact BK105.out⟩, ⟨by repeat (first | (with_reducible first | exact HB.out | apply below_alloc | apply pw_below_drewN | apply below_drew1 | refine below_set ?_ GE104.out | refine below_set ?_ GE105.out) | exact HB.out)⟩⟩
        · rw [if_neg c21] at H
          have c21b0 : (a1_0 == 3) = false := beq_eq_false_iff_ne.mpr c21
          have c21b1 : (a1_0 != 3) = true := bne_iff_ne.mpr c21
          (first | rw [c21b0] | (simp only [i64_w, i32_w]; rw [c21b0]) | skip)
          by_cases c22 : a1_0 = 7
          · rw [if_pos c22] at H
            have c22b0 : (a1_0 == 7) = true := beq_iff_eq.mpr c22
            have c22b1 : (a1_0 != 7) = false := bne_eq_false_iff_eq.mpr c22
            clear c22
            have H' := Aside0.mk H
            clear H
            go_wp2
            go_meet
            case rel => exact ⟨_, ((a1_0 == 7)), (by first | rfl | (simp; done) | (simp [*]; done)), H', ⟨by first | omega | exact Nat.le_refl _⟩, ⟨by (with_reducible repeat (first | refine blk_drewN ?_ _ | refine blk_drew ?_ | refine blk_alloc ?_ _)); exact BK104.out⟩, ⟨by (with_reducible repeat (first | refine blk_drewN ?_ _ | refine blk_drew ?_ | refine blk_alloc ?_ _)); exact BK105.out⟩, ⟨by repeat (first | (with_reducible first | exact HB.out | apply below_alloc | apply pw_below_drewN | apply below_drew1 | refine below_set ?_ GE104.out | refine below_set ?_ GE105.out) | exact HB.out)⟩⟩
          · rw [if_neg c22] at H
            have c22b0 : (a1_0 == 7) = false := beq_eq_false_iff_ne.mpr c22
            have c22b1 : (a1_0 != 7) = true := bne_iff_ne.mpr c22
            by_cases c23 : a1_0 = 8
            · rw [if_pos c23] at H
              have c23b0 : (a1_0 == 8) = true := beq_iff_eq.mpr c23
              have c23b1 : (a1_0 != 8) = false := bne_eq_false_iff_eq.mpr c23
              clear c23
              have H' := Aside0.mk H
              clear H
              go_wp2
              go_meet
              case rel => exact ⟨_, ((a1_0 == 8)), (by first | rfl | (simp; done) | (simp [*]; done)), H', ⟨by first | omega | exact Nat.le_refl _⟩, ⟨by (with_reducible repeat (first | refine blk_drewN ?_ _ | refine blk_drew ?_ | refine blk_alloc ?_ _)); exact BK104.out⟩, ⟨by (with_reducible repeat (first | refine blk_drewN ?_ _ | refine blk_drew ?_ | refine blk_alloc ?_ _)); exact BK105.out⟩, ⟨by repeat (first | (with_reducible first | exact HB.out | apply below_alloc | apply pw_below_drewN | apply below_drew1 | refine below_set ?_ GE104.out | refine below_set ?_ GE105.out) | exact HB.out)⟩⟩
            · rw [if_neg c23] at H
              have c23b0 : (a1_0 == 8) = false := beq_eq_false_iff_ne.mpr c23
              have c23b1 : (a1_0 != 8) = true := bne_iff_ne.mpr c23
              have H' := Aside0.mk H
              clear H
              go_wp2
              go_meet
              case rel => exact ⟨_, ((a1_0 == 14)), (by first | rfl | (simp; done) | (simp [*]; done)), H', ⟨by first | omega | exact Nat.le_refl _⟩, ⟨by (with_reducible repeat (first | refine blk_drewN ?_ _ | refine blk_drew ?_ | refine blk_alloc ?_ _)); exact BK104.out⟩, ⟨by (with_reducible repeat (first | refine blk_drewN ?_ _ | refine blk_drew ?_ | refine blk_alloc ?_ _)); exact BK105.out⟩, ⟨by repeat (first | (with_reducible first | exact HB.out | apply below_alloc | apply pw_below_drewN | apply below_drew1 | refine below_set ?_ GE104.out | refine below_set ?_ GE105.out) | exact HB.out)⟩⟩
      case rest =>
        clear HC16
        try clear c1
        try clear c2
        try clear p2
        try clear c3
        try clear c3b0
        try clear c3b1
        try clear c4
        try clear c5
        try clear p6
        try clear c7
        try clear c9
        try clear c9b0
        try clear c9b1
        try clear c13
        try clear c19
        try clear c21
        try clear c21b0
        try clear c21b1
        try clear c22
        try clear c22b0
        try clear c22b1
        try clear c23
        try clear c23b0
        try clear c23b1
        try clear hcz14_0
        try clear hcz14_1
        try clear hcz14_2
        try clear hcz14_3
        try clear hcz14_4
        try clear hcz14_5
        try clear hcz15_0
        try clear hcz15_1
        try clear hcz15_2
        try clear hcz20_0
        try clear hcz20_1
        try clear hcz20_2
        try clear hcz20_3
        try clear hcz20_4
        try clear hcz20_5
        try clear hcz8_0
        try clear hcz8_1
        try clear hcz8_2
        try clear hcz8_3
        try clear hcz8_4
        try clear hcz8_5
        try clear hfz14_0
        try clear hfz14_1
        try clear hfz14_2
        try clear hfz14_3
        try clear hfz14_4
        try clear hfz14_5
        try clear hfz15_0
        try clear hfz15_1
        try clear hfz15_2
        try clear hfz20_0
        try clear hfz20_1
        try clear hfz20_2
        try clear hfz20_3
        try clear hfz20_4
        try clear hfz20_5
        try clear hfz8_0
        try clear hfz8_1
        try clear hfz8_2
        try clear hfz8_3
        try clear hfz8_4
        try clear hfz8_5
        obtain ⟨kq, x21_15, rfl, HA, HJ15, BK104, BK105, HB⟩ := hcut
        cases kq with
        | zero => exact absurd HA.out (by simp [code_number.j0])
        | succ kj15 =>
          have H := HA.out
          clear HA
          simp only [code_number.j0] at H
          by_cases c24 : x21_15 = true
          · subst c24
            have H1 : ((code_within.f a1_1 0 8192).bind fun t108 => (some t108)) = some r := by rw [if_pos rfl] at H; exact H
            clear H
            have H := H1
            clear H1
            replace H := Option.bind_eq_some_iff.mp H
            obtain ⟨t108, A250, H⟩ := H
            replace H : (some t108) = some r := H
            have A25 := Aside0.mk A250
            clear A250
            obtain rfl := Option.some.inj H
            have hnb26 := NB105_104.out
            have hnc26 := NB104_105.out
            have hcz27_0 : wc.cell? ⟨gb105, 0, none⟩ = some (.int .i64 a1_0) := (blk_cell BK105.out 0).trans rfl
            have hcz27_1 : wc.cell? ⟨gb105, 1, none⟩ = some (.int .i64 a1_1) := (blk_cell BK105.out 1).trans rfl
            have hcz27_2 : wc.cell? ⟨gb105, 2, none⟩ = some (.int .i64 a1_2) := (blk_cell BK105.out 2).trans rfl
            have hcz27_3 : wc.cell? ⟨gb105, 3, none⟩ = some (.slice A1_3 l1_3.length c1_3) := (blk_cell BK105.out 3).trans rfl
            have hcz27_4 : wc.cell? ⟨gb105, 4, none⟩ = some (.slice A1_4 l1_4.length c1_4) := (blk_cell BK105.out 4).trans rfl
            have hcz27_5 : wc.cell? ⟨gb105, 5, none⟩ = some (.slice A1_5 l1_5.length c1_5) := (blk_cell BK105.out 5).trans rfl
            have hfz27_0 := blk_frozen BK105.out 0
            have hfz27_1 := blk_frozen BK105.out 1
            have hfz27_2 := blk_frozen BK105.out 2
            have hfz27_3 := blk_frozen BK105.out 3
            have hfz27_4 := blk_frozen BK105.out 4
            have hfz27_5 := blk_frozen BK105.out 5
            go_wp2_with (first | ((with_reducible refine gate_callee (f := 55) rfl ?_); refine goesL_ (some 28) rfl rfl Try.func55 (by kernel_rfl) rfl #[.int .i64 a1_1, .int .i64 0, .int .i64 8192] rfl (by (try simp only [List.map_toArray, List.map_cons, List.map_nil]); first | done | rfl | (simp only [List.length_drop, List.length_take]; rfl)) ?_; (with_reducible refine (code_within.calls a1_1 0 8192 t108 _ A25.out).mono ?_); rintro e w' ⟨rfl, ⟨nd, rfl⟩⟩; refine ⟨_, rfl, ?_⟩))
            go_ret
            exact ⟨by first | rfl | (simp [errW_none, errW_some] <;> rfl) | (simp [*, errW_none, errW_some] <;> rfl), by repeat (first | (with_reducible first | exact HB.out | apply below_alloc | apply pw_below_drewN | apply below_drew1 | refine below_set ?_ GE104.out | refine below_set ?_ GE105.out) | exact HB.out)⟩
          · replace c24 := Bool.eq_false_iff.mpr c24
            subst c24
            have H1 : (if a1_0 = 4 then (code_number.j1 kj15 a1_0 (a1_0 == 4) a1_0 a1_1 a1_2 l1_3 l1_4 l1_5) else (if a1_0 = 18 then (code_number.j1 kj15 a1_0 (a1_0 == 18) a1_0 a1_1 a1_2 l1_3 l1_4 l1_5) else (if a1_0 = 19 then (code_number.j1 kj15 a1_0 (a1_0 == 19) a1_0 a1_1 a1_2 l1_3 l1_4 l1_5) else (code_number.j1 kj15 a1_0 (a1_0 == 15) a1_0 a1_1 a1_2 l1_3 l1_4 l1_5)))) = some r := by rw [if_neg (show ¬ (false = true) by decide)] at H; exact H
            clear H
            have H := H1
            clear H1
            have HC28 := Aside0.mk H
            clear H
            go_upto_if 29 with (fail)
            go_cut [29] (fun v29 wc => ∃ (kq : Nat) (x29_27 : Bool), v29 = .bool x29_27 ∧ Aside0 (code_number.j1 kq a1_0 x29_27 a1_0 a1_1 a1_2 l1_3 l1_4 l1_5 = some r) ∧ Aside0 (kq ≤ kj15) ∧ Aside0 (wc.heap[gb104]? = some (.cells #[(.slice A0_0 l0_0.length c0_0), (.slice A0_1 l0_1.length c0_1), (.slice A0_2 l0_2.length c0_2)] 26 (0, 0))) ∧ Aside0 (wc.heap[gb105]? = some (.cells #[.int .i64 a1_0, .int .i64 a1_1, .int .i64 a1_2, (.slice A1_3 l1_3.length c1_3), (.slice A1_4 l1_4.length c1_4), (.slice A1_5 l1_5.length c1_5)] 43 (0, 0))) ∧ Aside0 (Below w.heap.size w wc))
            case first =>
              have H := HC28.out
              clear HC28
              by_cases c29 : a1_0 = 4
              · rw [if_pos c29] at H
                have c29b0 : (a1_0 == 4) = true := beq_iff_eq.mpr c29
                have c29b1 : (a1_0 != 4) = false := bne_eq_false_iff_eq.mpr c29
                clear c29
                (first | rw [c29b0] | (simp only [i64_w, i32_w]; rw [c29b0]) | skip)
                have H' := Aside0.mk H
                clear H
                go_wp2
                go_meet
                case rel => exact ⟨_, ((a1_0 == 4)), (by first | rfl | (simp; done) | (simp [*]; done)), H', ⟨by have := HJ15.out; first | omega | exact Nat.le_refl _⟩, ⟨by (with_reducible repeat (first | refine blk_drewN ?_ _ | refine blk_drew ?_ | refine blk_alloc ?_ _)); exact BK104.out⟩, ⟨by (with_reducible repeat (first | refine blk_drewN ?_ _ | refine blk_drew ?_ | refine blk_alloc ?_ _)); exact BK105.out⟩, ⟨by repeat (first | (with_reducible first | exact HB.out | apply below_alloc | apply pw_below_drewN | apply below_drew1 | refine below_set ?_ GE104.out | refine below_set ?_ GE105.out) | exact HB.out)⟩⟩
              · rw [if_neg c29] at H
                have c29b0 : (a1_0 == 4) = false := beq_eq_false_iff_ne.mpr c29
                have c29b1 : (a1_0 != 4) = true := bne_iff_ne.mpr c29
                (first | rw [c29b0] | (simp only [i64_w, i32_w]; rw [c29b0]) | skip)
                by_cases c30 : a1_0 = 18
                · rw [if_pos c30] at H
                  have c30b0 : (a1_0 == 18) = true := beq_iff_eq.mpr c30
                  have c30b1 : (a1_0 != 18) = false := bne_eq_false_iff_eq.mpr c30
                  clear c30
                  have H' := Aside0.mk H
                  clear H
                  go_wp2
                  go_meet
                  case rel => exact ⟨_, ((a1_0 == 18)), (by first | rfl | (simp; done) | (simp [*]; done)), H', ⟨by have := HJ15.out; first | omega | exact Nat.le_refl _⟩, ⟨by (with_reducible repeat (first | refine blk_drewN ?_ _ | refine blk_drew ?_ | refine blk_alloc ?_ _)); exact BK104.out⟩, ⟨by (with_reducible repeat (first | refine blk_drewN ?_ _ | refine blk_drew ?_ | refine blk_alloc ?_ _)); exact BK105.out⟩, ⟨by repeat (first | (with_reducible first | exact HB.out | apply below_alloc | apply pw_below_drewN | apply below_drew1 | refine below_set ?_ GE104.out | refine below_set ?_ GE105.out) | exact HB.out)⟩⟩
                · rw [if_neg c30] at H
                  have c30b0 : (a1_0 == 18) = false := beq_eq_false_iff_ne.mpr c30
                  have c30b1 : (a1_0 != 18) = true := bne_iff_ne.mpr c30
                  by_cases c31 : a1_0 = 19
                  · rw [if_pos c31] at H
                    have c31b0 : (a1_0 == 19) = true := beq_iff_eq.mpr c31
                    have c31b1 : (a1_0 != 19) = false := bne_eq_false_iff_eq.mpr c31
                    clear c31
                    have H' := Aside0.mk H
                    clear H
                    go_wp2
                    go_meet
                    case rel => exact ⟨_, ((a1_0 == 19)), (by first | rfl | (simp; done) | (simp [*]; done)), H', ⟨by have := HJ15.out; first | omega | exact Nat.le_refl _⟩, ⟨by (with_reducible repeat (first | refine blk_drewN ?_ _ | refine blk_drew ?_ | refine blk_alloc ?_ _)); exact BK104.out⟩, ⟨by (with_reducible repeat (first | refine blk_drewN ?_ _ | refine blk_drew ?_ | refine blk_alloc ?_ _)); exact BK105.out⟩, ⟨by repeat (first | (with_reducible first | exact HB.out | apply below_alloc | apply pw_below_drewN | apply below_drew1 | refine below_set ?_ GE104.out | refine below_set ?_ GE105.out) | exact HB.out)⟩⟩
                  · rw [if_neg c31] at H
                    have c31b0 : (a1_0 == 19) = false := beq_eq_false_iff_ne.mpr c31
                    have c31b1 : (a1_0 != 19) = true := bne_iff_ne.mpr c31
                    have H' := Aside0.mk H
                    clear H
                    go_wp2
                    go_meet
                    case rel => exact ⟨_, ((a1_0 == 15)), (by first | rfl | (simp; done) | (simp [*]; done)), H', ⟨by have := HJ15.out; first | omega | exact Nat.le_refl _⟩, ⟨by (with_reducible repeat (first | refine blk_drewN ?_ _ | refine blk_drew ?_ | refine blk_alloc ?_ _)); exact BK104.out⟩, ⟨by (with_reducible repeat (first | refine blk_drewN ?_ _ | refine blk_drew ?_ | refine blk_alloc ?_ _)); exact BK105.out⟩, ⟨by repeat (first | (with_reducible first | exact HB.out | apply below_alloc | apply pw_below_drewN | apply below_drew1 | refine below_set ?_ GE104.out | refine below_set ?_ GE105.out) | exact HB.out)⟩⟩
            case rest =>
              clear HC28
              try clear c1
              try clear c2
              try clear p2
              try clear c3
              try clear c3b0
              try clear c3b1
              try clear c4
              try clear c5
              try clear p6
              try clear c7
              try clear c9
              try clear c9b0
              try clear c9b1
              try clear c13
              try clear c19
              try clear c21
              try clear c21b0
              try clear c21b1
              try clear c22
              try clear c22b0
              try clear c22b1
              try clear c23
              try clear c23b0
              try clear c23b1
              try clear c24
              try clear c26
              try clear c29
              try clear c29b0
              try clear c29b1
              try clear c30
              try clear c30b0
              try clear c30b1
              try clear c31
              try clear c31b0
              try clear c31b1
              try clear hcz14_0
              try clear hcz14_1
              try clear hcz14_2
              try clear hcz14_3
              try clear hcz14_4
              try clear hcz14_5
              try clear hcz15_0
              try clear hcz15_1
              try clear hcz15_2
              try clear hcz20_0
              try clear hcz20_1
              try clear hcz20_2
              try clear hcz20_3
              try clear hcz20_4
              try clear hcz20_5
              try clear hcz27_0
              try clear hcz27_1
              try clear hcz27_2
              try clear hcz27_3
              try clear hcz27_4
              try clear hcz27_5
              try clear hcz8_0
              try clear hcz8_1
              try clear hcz8_2
              try clear hcz8_3
              try clear hcz8_4
              try clear hcz8_5
              try clear hfz14_0
              try clear hfz14_1
              try clear hfz14_2
              try clear hfz14_3
              try clear hfz14_4
              try clear hfz14_5
              try clear hfz15_0
              try clear hfz15_1
              try clear hfz15_2
              try clear hfz20_0
              try clear hfz20_1
              try clear hfz20_2
              try clear hfz20_3
              try clear hfz20_4
              try clear hfz20_5
              try clear hfz27_0
              try clear hfz27_1
              try clear hfz27_2
              try clear hfz27_3
              try clear hfz27_4
              try clear hfz27_5
              try clear hfz8_0
              try clear hfz8_1
              try clear hfz8_2
              try clear hfz8_3
              try clear hfz8_4
              try clear hfz8_5
              try clear p2
              try clear p6
              obtain ⟨kq, x29_27, rfl, HA, HJ27, BK104, BK105, HB⟩ := hcut
              cases kq with
              | zero => exact absurd HA.out (by simp [code_number.j1])
              | succ kj27 =>
                have H := HA.out
                clear HA
                simp only [code_number.j1] at H
                by_cases c32 : x29_27 = true
                · subst c32
                  have H1 : ((code_within.f a1_1 0 4095).bind fun t109 => (some t109)) = some r := by rw [if_pos rfl] at H; exact H
                  clear H
                  have H := H1
                  clear H1
                  replace H := Option.bind_eq_some_iff.mp H
                  obtain ⟨t109, A330, H⟩ := H
                  replace H : (some t109) = some r := H
                  have A33 := Aside0.mk A330
                  clear A330
                  obtain rfl := Option.some.inj H
                  have hnb34 := NB105_104.out
                  have hnc34 := NB104_105.out
                  have hcz35_0 : wc.cell? ⟨gb105, 0, none⟩ = some (.int .i64 a1_0) := (blk_cell BK105.out 0).trans rfl
                  have hcz35_1 : wc.cell? ⟨gb105, 1, none⟩ = some (.int .i64 a1_1) := (blk_cell BK105.out 1).trans rfl
                  have hcz35_2 : wc.cell? ⟨gb105, 2, none⟩ = some (.int .i64 a1_2) := (blk_cell BK105.out 2).trans rfl
                  have hcz35_3 : wc.cell? ⟨gb105, 3, none⟩ = some (.slice A1_3 l1_3.length c1_3) := (blk_cell BK105.out 3).trans rfl
                  have hcz35_4 : wc.cell? ⟨gb105, 4, none⟩ = some (.slice A1_4 l1_4.length c1_4) := (blk_cell BK105.out 4).trans rfl
                  have hcz35_5 : wc.cell? ⟨gb105, 5, none⟩ = some (.slice A1_5 l1_5.length c1_5) := (blk_cell BK105.out 5).trans rfl
                  have hfz35_0 := blk_frozen BK105.out 0
                  have hfz35_1 := blk_frozen BK105.out 1
                  have hfz35_2 := blk_frozen BK105.out 2
                  have hfz35_3 := blk_frozen BK105.out 3
                  have hfz35_4 := blk_frozen BK105.out 4
                  have hfz35_5 := blk_frozen BK105.out 5
                  go_wp2_with (first | ((with_reducible refine gate_callee (f := 55) rfl ?_); refine goesL_ (some 36) rfl rfl Try.func55 (by kernel_rfl) rfl #[.int .i64 a1_1, .int .i64 0, .int .i64 4095] rfl (by (try simp only [List.map_toArray, List.map_cons, List.map_nil]); first | done | rfl | (simp only [List.length_drop, List.length_take]; rfl)) ?_; (with_reducible refine (code_within.calls a1_1 0 4095 t109 _ A33.out).mono ?_); rintro e w' ⟨rfl, ⟨nd, rfl⟩⟩; refine ⟨_, rfl, ?_⟩))
                  go_ret
                  exact ⟨by first | rfl | (simp [errW_none, errW_some] <;> rfl) | (simp [*, errW_none, errW_some] <;> rfl), by repeat (first | (with_reducible first | exact HB.out | apply below_alloc | apply pw_below_drewN | apply below_drew1 | refine below_set ?_ GE104.out | refine below_set ?_ GE105.out) | exact HB.out)⟩
                · replace c32 := Bool.eq_false_iff.mpr c32
                  subst c32
                  have H1 : (if a1_0 = 5 then ((code_within.f a1_1 (-100) 100).bind fun t110 => (some t110)) else (if a1_0 = 10 then (code_number.j2 kj27 a1_0 (a1_0 == 10) a1_0 a1_1 a1_2 l1_3 l1_4 l1_5) else (code_number.j2 kj27 a1_0 (a1_0 == 13) a1_0 a1_1 a1_2 l1_3 l1_4 l1_5))) = some r := by rw [if_neg (show ¬ (false = true) by decide)] at H; exact H
                  clear H
                  have H := H1
                  clear H1
                  by_cases c36 : a1_0 = 5
                  · rw [if_pos c36] at H
                    have c36b0 : (a1_0 == 5) = true := beq_iff_eq.mpr c36
                    have c36b1 : (a1_0 != 5) = false := bne_eq_false_iff_eq.mpr c36
                    clear c36
                    replace H := Option.bind_eq_some_iff.mp H
                    obtain ⟨t110, A370, H⟩ := H
                    replace H : (some t110) = some r := H
                    have A37 := Aside0.mk A370
                    clear A370
                    obtain rfl := Option.some.inj H
                    have hnb38 := NB105_104.out
                    have hnc38 := NB104_105.out
                    have hcz39_0 : wc.cell? ⟨gb105, 0, none⟩ = some (.int .i64 a1_0) := (blk_cell BK105.out 0).trans rfl
                    have hcz39_1 : wc.cell? ⟨gb105, 1, none⟩ = some (.int .i64 a1_1) := (blk_cell BK105.out 1).trans rfl
                    have hcz39_2 : wc.cell? ⟨gb105, 2, none⟩ = some (.int .i64 a1_2) := (blk_cell BK105.out 2).trans rfl
                    have hcz39_3 : wc.cell? ⟨gb105, 3, none⟩ = some (.slice A1_3 l1_3.length c1_3) := (blk_cell BK105.out 3).trans rfl
                    have hcz39_4 : wc.cell? ⟨gb105, 4, none⟩ = some (.slice A1_4 l1_4.length c1_4) := (blk_cell BK105.out 4).trans rfl
                    have hcz39_5 : wc.cell? ⟨gb105, 5, none⟩ = some (.slice A1_5 l1_5.length c1_5) := (blk_cell BK105.out 5).trans rfl
                    have hfz39_0 := blk_frozen BK105.out 0
                    have hfz39_1 := blk_frozen BK105.out 1
                    have hfz39_2 := blk_frozen BK105.out 2
                    have hfz39_3 := blk_frozen BK105.out 3
                    have hfz39_4 := blk_frozen BK105.out 4
                    have hfz39_5 := blk_frozen BK105.out 5
                    go_wp2_with (first | ((with_reducible refine gate_callee (f := 55) rfl ?_); refine goesL_ (some 41) rfl rfl Try.func55 (by kernel_rfl) rfl #[.int .i64 a1_1, .int .i64 (-100), .int .i64 100] rfl (by (try simp only [List.map_toArray, List.map_cons, List.map_nil]); first | done | rfl | (simp only [List.length_drop, List.length_take]; rfl)) ?_; (with_reducible refine (code_within.calls a1_1 (-100) 100 t110 _ A37.out).mono ?_); rintro e w' ⟨rfl, ⟨nd, rfl⟩⟩; refine ⟨_, rfl, ?_⟩))
                    go_ret
                    exact ⟨by first | rfl | (simp [errW_none, errW_some] <;> rfl) | (simp [*, errW_none, errW_some] <;> rfl), by repeat (first | (with_reducible first | exact HB.out | apply below_alloc | apply pw_below_drewN | apply below_drew1 | refine below_set ?_ GE104.out | refine below_set ?_ GE105.out) | exact HB.out)⟩
                  · rw [if_neg c36] at H
                    have c36b0 : (a1_0 == 5) = false := beq_eq_false_iff_ne.mpr c36
                    have c36b1 : (a1_0 != 5) = true := bne_iff_ne.mpr c36
                    have HC40 := Aside0.mk H
                    clear H
                    go_upto_if 42 with (fail)
                    go_cut [42] (fun v42 wc => ∃ (kq : Nat) (x42_39 : Bool), v42 = .bool x42_39 ∧ Aside0 (code_number.j2 kq a1_0 x42_39 a1_0 a1_1 a1_2 l1_3 l1_4 l1_5 = some r) ∧ Aside0 (kq ≤ kj27) ∧ Aside0 (wc.heap[gb104]? = some (.cells #[(.slice A0_0 l0_0.length c0_0), (.slice A0_1 l0_1.length c0_1), (.slice A0_2 l0_2.length c0_2)] 26 (0, 0))) ∧ Aside0 (wc.heap[gb105]? = some (.cells #[.int .i64 a1_0, .int .i64 a1_1, .int .i64 a1_2, (.slice A1_3 l1_3.length c1_3), (.slice A1_4 l1_4.length c1_4), (.slice A1_5 l1_5.length c1_5)] 43 (0, 0))) ∧ Aside0 (Below w.heap.size w wc))
                    case first =>
                      have H := HC40.out
                      clear HC40
                      by_cases c41 : a1_0 = 10
                      · rw [if_pos c41] at H
                        have c41b0 : (a1_0 == 10) = true := beq_iff_eq.mpr c41
                        have c41b1 : (a1_0 != 10) = false := bne_eq_false_iff_eq.mpr c41
                        clear c41
                        (first | rw [c41b0] | (simp only [i64_w, i32_w]; rw [c41b0]) | skip)
                        have H' := Aside0.mk H
                        clear H
                        go_wp2
                        go_meet
                        case rel => exact ⟨_, ((a1_0 == 10)), (by first | rfl | (simp; done) | (simp [*]; done)), H', ⟨by have := HJ15.out; have := HJ27.out; first | omega | exact Nat.le_refl _⟩, ⟨by (with_reducible repeat (first | refine blk_drewN ?_ _ | refine blk_drew ?_ | refine blk_alloc ?_ _)); exact BK104.out⟩, ⟨by (with_reducible repeat (first | refine blk_drewN ?_ _ | refine blk_drew ?_ | refine blk_alloc ?_ _)); exact BK105.out⟩, ⟨by repeat (first | (with_reducible first | exact HB.out | apply below_alloc | apply pw_below_drewN | apply below_drew1 | refine below_set ?_ GE104.out | refine below_set ?_ GE105.out) | exact HB.out)⟩⟩
                      · rw [if_neg c41] at H
                        have c41b0 : (a1_0 == 10) = false := beq_eq_false_iff_ne.mpr c41
                        have c41b1 : (a1_0 != 10) = true := bne_iff_ne.mpr c41
                        (first | rw [c41b0] | (simp only [i64_w, i32_w]; rw [c41b0]) | skip)
                        have H' := Aside0.mk H
                        clear H
                        go_wp2
                        go_meet
                        case rel => exact ⟨_, ((a1_0 == 13)), (by first | rfl | (simp; done) | (simp [*]; done)), H', ⟨by have := HJ15.out; have := HJ27.out; first | omega | exact Nat.le_refl _⟩, ⟨by (with_reducible repeat (first | refine blk_drewN ?_ _ | refine blk_drew ?_ | refine blk_alloc ?_ _)); exact BK104.out⟩, ⟨by (with_reducible repeat (first | refine blk_drewN ?_ _ | refine blk_drew ?_ | refine blk_alloc ?_ _)); exact BK105.out⟩, ⟨by repeat (first | (with_reducible first | exact HB.out | apply below_alloc | apply pw_below_drewN | apply below_drew1 | refine below_set ?_ GE104.out | refine below_set ?_ GE105.out) | exact HB.out)⟩⟩
                    case rest =>
                      clear HC40
                      try clear c1
                      try clear c2
                      try clear p2
                      try clear c3
                      try clear c3b0
                      try clear c3b1
                      try clear c4
                      try clear c5
                      try clear p6
                      try clear c7
                      try clear c9
                      try clear c9b0
                      try clear c9b1
                      try clear c13
                      try clear c19
                      try clear c21
                      try clear c21b0
                      try clear c21b1
                      try clear c22
                      try clear c22b0
                      try clear c22b1
                      try clear c23
                      try clear c23b0
                      try clear c23b1
                      try clear c24
                      try clear c26
                      try clear c29
                      try clear c29b0
                      try clear c29b1
                      try clear c30
                      try clear c30b0
                      try clear c30b1
                      try clear c31
                      try clear c31b0
                      try clear c31b1
                      try clear c32
                      try clear c34
                      try clear c36
                      try clear c36b0
                      try clear c36b1
                      try clear c38
                      try clear c41
                      try clear c41b0
                      try clear c41b1
                      try clear hcz14_0
                      try clear hcz14_1
                      try clear hcz14_2
                      try clear hcz14_3
                      try clear hcz14_4
                      try clear hcz14_5
                      try clear hcz15_0
                      try clear hcz15_1
                      try clear hcz15_2
                      try clear hcz20_0
                      try clear hcz20_1
                      try clear hcz20_2
                      try clear hcz20_3
                      try clear hcz20_4
                      try clear hcz20_5
                      try clear hcz27_0
                      try clear hcz27_1
                      try clear hcz27_2
                      try clear hcz27_3
                      try clear hcz27_4
                      try clear hcz27_5
                      try clear hcz35_0
                      try clear hcz35_1
                      try clear hcz35_2
                      try clear hcz35_3
                      try clear hcz35_4
                      try clear hcz35_5
                      try clear hcz39_0
                      try clear hcz39_1
                      try clear hcz39_2
                      try clear hcz39_3
                      try clear hcz39_4
                      try clear hcz39_5
                      try clear hcz8_0
                      try clear hcz8_1
                      try clear hcz8_2
                      try clear hcz8_3
                      try clear hcz8_4
                      try clear hcz8_5
                      try clear hfz14_0
                      try clear hfz14_1
                      try clear hfz14_2
                      try clear hfz14_3
                      try clear hfz14_4
                      try clear hfz14_5
                      try clear hfz15_0
                      try clear hfz15_1
                      try clear hfz15_2
                      try clear hfz20_0
                      try clear hfz20_1
                      try clear hfz20_2
                      try clear hfz20_3
                      try clear hfz20_4
                      try clear hfz20_5
                      try clear hfz27_0
                      try clear hfz27_1
                      try clear hfz27_2
                      try clear hfz27_3
                      try clear hfz27_4
                      try clear hfz27_5
                      try clear hfz35_0
                      try clear hfz35_1
                      try clear hfz35_2
                      try clear hfz35_3
                      try clear hfz35_4
                      try clear hfz35_5
                      try clear hfz39_0
                      try clear hfz39_1
                      try clear hfz39_2
                      try clear hfz39_3
                      try clear hfz39_4
                      try clear hfz39_5
                      try clear hfz8_0
                      try clear hfz8_1
                      try clear hfz8_2
                      try clear hfz8_3
                      try clear hfz8_4
                      try clear hfz8_5
                      try clear p2
                      try clear p6
                      obtain ⟨kq, x42_39, rfl, HA, HJ39, BK104, BK105, HB⟩ := hcut
                      cases kq with
                      | zero => exact absurd HA.out (by simp [code_number.j2])
                      | succ kj39 =>
                        have H := HA.out
                        clear HA
                        simp only [code_number.j2] at H
                        by_cases c42 : x42_39 = true
                        · subst c42
                          have H1 : ((code_within.f a1_1 1 30).bind fun t111 => (some t111)) = some r := by rw [if_pos rfl] at H; exact H
                          clear H
                          have H := H1
                          clear H1
                          replace H := Option.bind_eq_some_iff.mp H
                          obtain ⟨t111, A430, H⟩ := H
                          replace H : (some t111) = some r := H
                          have A43 := Aside0.mk A430
                          clear A430
                          obtain rfl := Option.some.inj H
                          have hnb44 := NB105_104.out
                          have hnc44 := NB104_105.out
                          have hcz45_0 : wc.cell? ⟨gb105, 0, none⟩ = some (.int .i64 a1_0) := (blk_cell BK105.out 0).trans rfl
                          have hcz45_1 : wc.cell? ⟨gb105, 1, none⟩ = some (.int .i64 a1_1) := (blk_cell BK105.out 1).trans rfl
                          have hcz45_2 : wc.cell? ⟨gb105, 2, none⟩ = some (.int .i64 a1_2) := (blk_cell BK105.out 2).trans rfl
                          have hcz45_3 : wc.cell? ⟨gb105, 3, none⟩ = some (.slice A1_3 l1_3.length c1_3) := (blk_cell BK105.out 3).trans rfl
                          have hcz45_4 : wc.cell? ⟨gb105, 4, none⟩ = some (.slice A1_4 l1_4.length c1_4) := (blk_cell BK105.out 4).trans rfl
                          have hcz45_5 : wc.cell? ⟨gb105, 5, none⟩ = some (.slice A1_5 l1_5.length c1_5) := (blk_cell BK105.out 5).trans rfl
                          have hfz45_0 := blk_frozen BK105.out 0
                          have hfz45_1 := blk_frozen BK105.out 1
                          have hfz45_2 := blk_frozen BK105.out 2
                          have hfz45_3 := blk_frozen BK105.out 3
                          have hfz45_4 := blk_frozen BK105.out 4
                          have hfz45_5 := blk_frozen BK105.out 5
                          go_wp2_with (first | ((with_reducible refine gate_callee (f := 55) rfl ?_); refine goesL_ (some 47) rfl rfl Try.func55 (by kernel_rfl) rfl #[.int .i64 a1_1, .int .i64 1, .int .i64 30] rfl (by (try simp only [List.map_toArray, List.map_cons, List.map_nil]); first | done | rfl | (simp only [List.length_drop, List.length_take]; rfl)) ?_; (with_reducible refine (code_within.calls a1_1 1 30 t111 _ A43.out).mono ?_); rintro e w' ⟨rfl, ⟨nd, rfl⟩⟩; refine ⟨_, rfl, ?_⟩))
                          go_ret
                          exact ⟨by first | rfl | (simp [errW_none, errW_some] <;> rfl) | (simp [*, errW_none, errW_some] <;> rfl), by repeat (first | (with_reducible first | exact HB.out | apply below_alloc | apply pw_below_drewN | apply below_drew1 | refine below_set ?_ GE104.out | refine below_set ?_ GE105.out) | exact HB.out)⟩
                        · replace c42 := Bool.eq_false_iff.mpr c42
                          subst c42
                          have H1 : (if a1_0 = 11 then ((code_within.f a1_1 1 30).bind fun t112 => (if t112 = true then ((code_within.f a1_2 0 8192).bind fun t113 => (some t113)) else (some false))) else (if a1_0 = 16 then ((code_within.f a1_1 0 4036).bind fun t114 => (some t114)) else (if a1_0 = 17 then ((code_within.f a1_1 0 199).bind fun t115 => (if t115 = true then ((code_within.f a1_2 0 4096).bind fun t116 => (some t116)) else (some false))) else (if a1_0 = 22 then ((code_within.f a1_1 1 11).bind fun t117 => (if t117 = true then (some true) else ((code_within.f a1_1 31 42).bind fun t118 => (some t118)))) else (if a1_0 = 23 then ((code_within.f a1_1 1 12).bind fun t119 => (some t119)) else (some (a1_1 == 0))))))) = some r := by rw [if_neg (show ¬ (false = true) by decide)] at H; exact H
                          clear H
                          have H := H1
                          clear H1
                          by_cases c46 : a1_0 = 11
                          · rw [if_pos c46] at H
                            have c46b0 : (a1_0 == 11) = true := beq_iff_eq.mpr c46
                            have c46b1 : (a1_0 != 11) = false := bne_eq_false_iff_eq.mpr c46
                            clear c46
                            replace H := Option.bind_eq_some_iff.mp H
                            obtain ⟨t112, A470, H⟩ := H
                            replace H : (if t112 = true then ((code_within.f a1_2 0 8192).bind fun t113 => (some t113)) else (some false)) = some r := H
                            have A47 := Aside0.mk A470
                            clear A470
                            by_cases c48 : t112 = true
                            · subst c48
                              have H1 : ((code_within.f a1_2 0 8192).bind fun t113 => (some t113)) = some r := by rw [if_pos rfl] at H; exact H
                              clear H
                              have H := H1
                              clear H1
                              replace H := Option.bind_eq_some_iff.mp H
                              obtain ⟨t113, A490, H⟩ := H
                              replace H : (some t113) = some r := H
                              have A49 := Aside0.mk A490
                              clear A490
                              obtain rfl := Option.some.inj H
                              have hnb50 := NB105_104.out
                              have hnc50 := NB104_105.out
                              have hcz51_0 : wc.cell? ⟨gb105, 0, none⟩ = some (.int .i64 a1_0) := (blk_cell BK105.out 0).trans rfl
                              have hcz51_1 : wc.cell? ⟨gb105, 1, none⟩ = some (.int .i64 a1_1) := (blk_cell BK105.out 1).trans rfl
                              have hcz51_2 : wc.cell? ⟨gb105, 2, none⟩ = some (.int .i64 a1_2) := (blk_cell BK105.out 2).trans rfl
                              have hcz51_3 : wc.cell? ⟨gb105, 3, none⟩ = some (.slice A1_3 l1_3.length c1_3) := (blk_cell BK105.out 3).trans rfl
                              have hcz51_4 : wc.cell? ⟨gb105, 4, none⟩ = some (.slice A1_4 l1_4.length c1_4) := (blk_cell BK105.out 4).trans rfl
                              have hcz51_5 : wc.cell? ⟨gb105, 5, none⟩ = some (.slice A1_5 l1_5.length c1_5) := (blk_cell BK105.out 5).trans rfl
                              have hfz51_0 := blk_frozen BK105.out 0
                              have hfz51_1 := blk_frozen BK105.out 1
                              have hfz51_2 := blk_frozen BK105.out 2
                              have hfz51_3 := blk_frozen BK105.out 3
                              have hfz51_4 := blk_frozen BK105.out 4
                              have hfz51_5 := blk_frozen BK105.out 5
                              go_wp2_with (first | ((with_reducible refine gate_callee (f := 55) rfl ?_); refine goesL_ (some 52) rfl rfl Try.func55 (by kernel_rfl) rfl #[.int .i64 a1_1, .int .i64 1, .int .i64 30] rfl (by (try simp only [List.map_toArray, List.map_cons, List.map_nil]); first | done | rfl | (simp only [List.length_drop, List.length_take]; rfl)) ?_; (with_reducible refine (code_within.calls a1_1 1 30 true _ A47.out).mono ?_); rintro e w' ⟨rfl, ⟨nd, rfl⟩⟩; refine ⟨_, rfl, ?_⟩) | (go_at_call 55; (with_reducible refine (code_within.calls a1_2 0 8192 t113 _ A49.out).mono ?_); rintro e w' ⟨rfl, ⟨nd, rfl⟩⟩))
                              go_ret
                              exact ⟨by first | rfl | (simp [errW_none, errW_some] <;> rfl) | (simp [*, errW_none, errW_some] <;> rfl), by repeat (first | (with_reducible first | exact HB.out | apply below_alloc | apply pw_below_drewN | apply below_drew1 | refine below_set ?_ GE104.out | refine below_set ?_ GE105.out) | exact HB.out)⟩
                            · replace c48 := Bool.eq_false_iff.mpr c48
                              subst c48
                              have H1 : (some false) = some r := by rw [if_neg (show ¬ (false = true) by decide)] at H; exact H
                              clear H
                              have H := H1
                              clear H1
                              obtain rfl := Option.some.inj H
                              have hnb52 := NB105_104.out
                              have hnc52 := NB104_105.out
                              have hcz53_0 : wc.cell? ⟨gb105, 0, none⟩ = some (.int .i64 a1_0) := (blk_cell BK105.out 0).trans rfl
                              have hcz53_1 : wc.cell? ⟨gb105, 1, none⟩ = some (.int .i64 a1_1) := (blk_cell BK105.out 1).trans rfl
                              have hcz53_2 : wc.cell? ⟨gb105, 2, none⟩ = some (.int .i64 a1_2) := (blk_cell BK105.out 2).trans rfl
                              have hcz53_3 : wc.cell? ⟨gb105, 3, none⟩ = some (.slice A1_3 l1_3.length c1_3) := (blk_cell BK105.out 3).trans rfl
                              have hcz53_4 : wc.cell? ⟨gb105, 4, none⟩ = some (.slice A1_4 l1_4.length c1_4) := (blk_cell BK105.out 4).trans rfl
                              have hcz53_5 : wc.cell? ⟨gb105, 5, none⟩ = some (.slice A1_5 l1_5.length c1_5) := (blk_cell BK105.out 5).trans rfl
                              have hfz53_0 := blk_frozen BK105.out 0
                              have hfz53_1 := blk_frozen BK105.out 1
                              have hfz53_2 := blk_frozen BK105.out 2
                              have hfz53_3 := blk_frozen BK105.out 3
                              have hfz53_4 := blk_frozen BK105.out 4
                              have hfz53_5 := blk_frozen BK105.out 5
                              go_wp2_with (first | ((with_reducible refine gate_callee (f := 55) rfl ?_); refine goesL_ (some 52) rfl rfl Try.func55 (by kernel_rfl) rfl #[.int .i64 a1_1, .int .i64 1, .int .i64 30] rfl (by (try simp only [List.map_toArray, List.map_cons, List.map_nil]); first | done | rfl | (simp only [List.length_drop, List.length_take]; rfl)) ?_; (with_reducible refine (code_within.calls a1_1 1 30 false _ A47.out).mono ?_); rintro e w' ⟨rfl, ⟨nd, rfl⟩⟩; refine ⟨_, rfl, ?_⟩))
                              go_ret
                              exact ⟨by first | rfl | (simp [errW_none, errW_some] <;> rfl) | (simp [*, errW_none, errW_some] <;> rfl), by repeat (first | (with_reducible first | exact HB.out | apply below_alloc | apply pw_below_drewN | apply below_drew1 | refine below_set ?_ GE104.out | refine below_set ?_ GE105.out) | exact HB.out)⟩
                          · rw [if_neg c46] at H
                            have c46b0 : (a1_0 == 11) = false := beq_eq_false_iff_ne.mpr c46
                            have c46b1 : (a1_0 != 11) = true := bne_iff_ne.mpr c46
                            by_cases c54 : a1_0 = 16
                            · rw [if_pos c54] at H
                              have c54b0 : (a1_0 == 16) = true := beq_iff_eq.mpr c54
                              have c54b1 : (a1_0 != 16) = false := bne_eq_false_iff_eq.mpr c54
                              clear c54
                              replace H := Option.bind_eq_some_iff.mp H
                              obtain ⟨t114, A550, H⟩ := H
                              replace H : (some t114) = some r := H
                              have A55 := Aside0.mk A550
                              clear A550
                              obtain rfl := Option.some.inj H
                              have hnb56 := NB105_104.out
                              have hnc56 := NB104_105.out
                              have hcz57_0 : wc.cell? ⟨gb105, 0, none⟩ = some (.int .i64 a1_0) := (blk_cell BK105.out 0).trans rfl
                              have hcz57_1 : wc.cell? ⟨gb105, 1, none⟩ = some (.int .i64 a1_1) := (blk_cell BK105.out 1).trans rfl
                              have hcz57_2 : wc.cell? ⟨gb105, 2, none⟩ = some (.int .i64 a1_2) := (blk_cell BK105.out 2).trans rfl
                              have hcz57_3 : wc.cell? ⟨gb105, 3, none⟩ = some (.slice A1_3 l1_3.length c1_3) := (blk_cell BK105.out 3).trans rfl
                              have hcz57_4 : wc.cell? ⟨gb105, 4, none⟩ = some (.slice A1_4 l1_4.length c1_4) := (blk_cell BK105.out 4).trans rfl
                              have hcz57_5 : wc.cell? ⟨gb105, 5, none⟩ = some (.slice A1_5 l1_5.length c1_5) := (blk_cell BK105.out 5).trans rfl
                              have hfz57_0 := blk_frozen BK105.out 0
                              have hfz57_1 := blk_frozen BK105.out 1
                              have hfz57_2 := blk_frozen BK105.out 2
                              have hfz57_3 := blk_frozen BK105.out 3
                              have hfz57_4 := blk_frozen BK105.out 4
                              have hfz57_5 := blk_frozen BK105.out 5
                              go_wp2_with (first | ((with_reducible refine gate_callee (f := 55) rfl ?_); refine goesL_ (some 62) rfl rfl Try.func55 (by kernel_rfl) rfl #[.int .i64 a1_1, .int .i64 0, .int .i64 4036] rfl (by (try simp only [List.map_toArray, List.map_cons, List.map_nil]); first | done | rfl | (simp only [List.length_drop, List.length_take]; rfl)) ?_; (with_reducible refine (code_within.calls a1_1 0 4036 t114 _ A55.out).mono ?_); rintro e w' ⟨rfl, ⟨nd, rfl⟩⟩; refine ⟨_, rfl, ?_⟩))
                              go_ret
                              exact ⟨by first | rfl | (simp [errW_none, errW_some] <;> rfl) | (simp [*, errW_none, errW_some] <;> rfl), by repeat (first | (with_reducible first | exact HB.out | apply below_alloc | apply pw_below_drewN | apply below_drew1 | refine below_set ?_ GE104.out | refine below_set ?_ GE105.out) | exact HB.out)⟩
                            · rw [if_neg c54] at H
                              have c54b0 : (a1_0 == 16) = false := beq_eq_false_iff_ne.mpr c54
                              have c54b1 : (a1_0 != 16) = true := bne_iff_ne.mpr c54
                              by_cases c58 : a1_0 = 17
                              · rw [if_pos c58] at H
                                have c58b0 : (a1_0 == 17) = true := beq_iff_eq.mpr c58
                                have c58b1 : (a1_0 != 17) = false := bne_eq_false_iff_eq.mpr c58
                                clear c58
                                replace H := Option.bind_eq_some_iff.mp H
                                obtain ⟨t115, A590, H⟩ := H
                                replace H : (if t115 = true then ((code_within.f a1_2 0 4096).bind fun t116 => (some t116)) else (some false)) = some r := H
                                have A59 := Aside0.mk A590
                                clear A590
                                by_cases c60 : t115 = true
                                · subst c60
                                  have H1 : ((code_within.f a1_2 0 4096).bind fun t116 => (some t116)) = some r := by rw [if_pos rfl] at H; exact H
                                  clear H
                                  have H := H1
                                  clear H1
                                  replace H := Option.bind_eq_some_iff.mp H
                                  obtain ⟨t116, A610, H⟩ := H
                                  replace H : (some t116) = some r := H
                                  have A61 := Aside0.mk A610
                                  clear A610
                                  obtain rfl := Option.some.inj H
                                  have hnb62 := NB105_104.out
                                  have hnc62 := NB104_105.out
                                  have hcz63_0 : wc.cell? ⟨gb105, 0, none⟩ = some (.int .i64 a1_0) := (blk_cell BK105.out 0).trans rfl
                                  have hcz63_1 : wc.cell? ⟨gb105, 1, none⟩ = some (.int .i64 a1_1) := (blk_cell BK105.out 1).trans rfl
                                  have hcz63_2 : wc.cell? ⟨gb105, 2, none⟩ = some (.int .i64 a1_2) := (blk_cell BK105.out 2).trans rfl
                                  have hcz63_3 : wc.cell? ⟨gb105, 3, none⟩ = some (.slice A1_3 l1_3.length c1_3) := (blk_cell BK105.out 3).trans rfl
                                  have hcz63_4 : wc.cell? ⟨gb105, 4, none⟩ = some (.slice A1_4 l1_4.length c1_4) := (blk_cell BK105.out 4).trans rfl
                                  have hcz63_5 : wc.cell? ⟨gb105, 5, none⟩ = some (.slice A1_5 l1_5.length c1_5) := (blk_cell BK105.out 5).trans rfl
                                  have hfz63_0 := blk_frozen BK105.out 0
                                  have hfz63_1 := blk_frozen BK105.out 1
                                  have hfz63_2 := blk_frozen BK105.out 2
                                  have hfz63_3 := blk_frozen BK105.out 3
                                  have hfz63_4 := blk_frozen BK105.out 4
                                  have hfz63_5 := blk_frozen BK105.out 5
                                  go_wp2_with (first | ((with_reducible refine gate_callee (f := 55) rfl ?_); refine goesL_ (some 67) rfl rfl Try.func55 (by kernel_rfl) rfl #[.int .i64 a1_1, .int .i64 0, .int .i64 199] rfl (by (try simp only [List.map_toArray, List.map_cons, List.map_nil]); first | done | rfl | (simp only [List.length_drop, List.length_take]; rfl)) ?_; (with_reducible refine (code_within.calls a1_1 0 199 true _ A59.out).mono ?_); rintro e w' ⟨rfl, ⟨nd, rfl⟩⟩; refine ⟨_, rfl, ?_⟩) | (go_at_call 55; (with_reducible refine (code_within.calls a1_2 0 4096 t116 _ A61.out).mono ?_); rintro e w' ⟨rfl, ⟨nd, rfl⟩⟩))
                                  go_ret
                                  exact ⟨by first | rfl | (simp [errW_none, errW_some] <;> rfl) | (simp [*, errW_none, errW_some] <;> rfl), by repeat (first | (with_reducible first | exact HB.out | apply below_alloc | apply pw_below_drewN | apply below_drew1 | refine below_set ?_ GE104.out | refine below_set ?_ GE105.out) | exact HB.out)⟩
                                · replace c60 := Bool.eq_false_iff.mpr c60
                                  subst c60
                                  have H1 : (some false) = some r := by rw [if_neg (show ¬ (false = true) by decide)] at H; exact H
                                  clear H
                                  have H := H1
                                  clear H1
                                  obtain rfl := Option.some.inj H
                                  have hnb64 := NB105_104.out
                                  have hnc64 := NB104_105.out
                                  have hcz65_0 : wc.cell? ⟨gb105, 0, none⟩ = some (.int .i64 a1_0) := (blk_cell BK105.out 0).trans rfl
                                  have hcz65_1 : wc.cell? ⟨gb105, 1, none⟩ = some (.int .i64 a1_1) := (blk_cell BK105.out 1).trans rfl
                                  have hcz65_2 : wc.cell? ⟨gb105, 2, none⟩ = some (.int .i64 a1_2) := (blk_cell BK105.out 2).trans rfl
                                  have hcz65_3 : wc.cell? ⟨gb105, 3, none⟩ = some (.slice A1_3 l1_3.length c1_3) := (blk_cell BK105.out 3).trans rfl
                                  have hcz65_4 : wc.cell? ⟨gb105, 4, none⟩ = some (.slice A1_4 l1_4.length c1_4) := (blk_cell BK105.out 4).trans rfl
                                  have hcz65_5 : wc.cell? ⟨gb105, 5, none⟩ = some (.slice A1_5 l1_5.length c1_5) := (blk_cell BK105.out 5).trans rfl
                                  have hfz65_0 := blk_frozen BK105.out 0
                                  have hfz65_1 := blk_frozen BK105.out 1
                                  have hfz65_2 := blk_frozen BK105.out 2
                                  have hfz65_3 := blk_frozen BK105.out 3
                                  have hfz65_4 := blk_frozen BK105.out 4
                                  have hfz65_5 := blk_frozen BK105.out 5
                                  go_wp2_with (first | ((with_reducible refine gate_callee (f := 55) rfl ?_); refine goesL_ (some 67) rfl rfl Try.func55 (by kernel_rfl) rfl #[.int .i64 a1_1, .int .i64 0, .int .i64 199] rfl (by (try simp only [List.map_toArray, List.map_cons, List.map_nil]); first | done | rfl | (simp only [List.length_drop, List.length_take]; rfl)) ?_; (with_reducible refine (code_within.calls a1_1 0 199 false _ A59.out).mono ?_); rintro e w' ⟨rfl, ⟨nd, rfl⟩⟩; refine ⟨_, rfl, ?_⟩))
                                  go_ret
                                  exact ⟨by first | rfl | (simp [errW_none, errW_some] <;> rfl) | (simp [*, errW_none, errW_some] <;> rfl), by repeat (first | (with_reducible first | exact HB.out | apply below_alloc | apply pw_below_drewN | apply below_drew1 | refine below_set ?_ GE104.out | refine below_set ?_ GE105.out) | exact HB.out)⟩
                              · rw [if_neg c58] at H
                                have c58b0 : (a1_0 == 17) = false := beq_eq_false_iff_ne.mpr c58
                                have c58b1 : (a1_0 != 17) = true := bne_iff_ne.mpr c58
                                by_cases c66 : a1_0 = 22
                                · rw [if_pos c66] at H
                                  have c66b0 : (a1_0 == 22) = true := beq_iff_eq.mpr c66
                                  have c66b1 : (a1_0 != 22) = false := bne_eq_false_iff_eq.mpr c66
                                  clear c66
                                  replace H := Option.bind_eq_some_iff.mp H
                                  obtain ⟨t117, A670, H⟩ := H
                                  replace H : (if t117 = true then (some true) else ((code_within.f a1_1 31 42).bind fun t118 => (some t118))) = some r := H
                                  have A67 := Aside0.mk A670
                                  clear A670
                                  by_cases c68 : t117 = true
                                  · subst c68
                                    have H1 : (some true) = some r := by rw [if_pos rfl] at H; exact H
                                    clear H
                                    have H := H1
                                    clear H1
                                    obtain rfl := Option.some.inj H
                                    have hnb69 := NB105_104.out
                                    have hnc69 := NB104_105.out
                                    have hcz70_0 : wc.cell? ⟨gb105, 0, none⟩ = some (.int .i64 a1_0) := (blk_cell BK105.out 0).trans rfl
                                    have hcz70_1 : wc.cell? ⟨gb105, 1, none⟩ = some (.int .i64 a1_1) := (blk_cell BK105.out 1).trans rfl
                                    have hcz70_2 : wc.cell? ⟨gb105, 2, none⟩ = some (.int .i64 a1_2) := (blk_cell BK105.out 2).trans rfl
                                    have hcz70_3 : wc.cell? ⟨gb105, 3, none⟩ = some (.slice A1_3 l1_3.length c1_3) := (blk_cell BK105.out 3).trans rfl
                                    have hcz70_4 : wc.cell? ⟨gb105, 4, none⟩ = some (.slice A1_4 l1_4.length c1_4) := (blk_cell BK105.out 4).trans rfl
                                    have hcz70_5 : wc.cell? ⟨gb105, 5, none⟩ = some (.slice A1_5 l1_5.length c1_5) := (blk_cell BK105.out 5).trans rfl
                                    have hfz70_0 := blk_frozen BK105.out 0
                                    have hfz70_1 := blk_frozen BK105.out 1
                                    have hfz70_2 := blk_frozen BK105.out 2
                                    have hfz70_3 := blk_frozen BK105.out 3
                                    have hfz70_4 := blk_frozen BK105.out 4
                                    have hfz70_5 := blk_frozen BK105.out 5
                                    go_wp2_with (first | ((with_reducible refine gate_callee (f := 55) rfl ?_); refine goesL_ (some 77) rfl rfl Try.func55 (by kernel_rfl) rfl #[.int .i64 a1_1, .int .i64 1, .int .i64 11] rfl (by (try simp only [List.map_toArray, List.map_cons, List.map_nil]); first | done | rfl | (simp only [List.length_drop, List.length_take]; rfl)) ?_; (with_reducible refine (code_within.calls a1_1 1 11 true _ A67.out).mono ?_); rintro e w' ⟨rfl, ⟨nd, rfl⟩⟩; refine ⟨_, rfl, ?_⟩))
                                    go_ret
                                    exact ⟨by first | rfl | (simp [errW_none, errW_some] <;> rfl) | (simp [*, errW_none, errW_some] <;> rfl), by repeat (first | (with_reducible first | exact HB.out | apply below_alloc | apply pw_below_drewN | apply below_drew1 | refine below_set ?_ GE104.out | refine below_set ?_ GE105.out) | exact HB.out)⟩
                                  · replace c68 := Bool.eq_false_iff.mpr c68
                                    subst c68
                                    have H1 : ((code_within.f a1_1 31 42).bind fun t118 => (some t118)) = some r := by rw [if_neg (show ¬ (false = true) by decide)] at H; exact H
                                    clear H
                                    have H := H1
                                    clear H1
                                    replace H := Option.bind_eq_some_iff.mp H
                                    obtain ⟨t118, A710, H⟩ := H
                                    replace H : (some t118) = some r := H
                                    have A71 := Aside0.mk A710
                                    clear A710
                                    obtain rfl := Option.some.inj H
                                    have hnb72 := NB105_104.out
                                    have hnc72 := NB104_105.out
                                    have hcz73_0 : wc.cell? ⟨gb105, 0, none⟩ = some (.int .i64 a1_0) := (blk_cell BK105.out 0).trans rfl
                                    have hcz73_1 : wc.cell? ⟨gb105, 1, none⟩ = some (.int .i64 a1_1) := (blk_cell BK105.out 1).trans rfl
                                    have hcz73_2 : wc.cell? ⟨gb105, 2, none⟩ = some (.int .i64 a1_2) := (blk_cell BK105.out 2).trans rfl
                                    have hcz73_3 : wc.cell? ⟨gb105, 3, none⟩ = some (.slice A1_3 l1_3.length c1_3) := (blk_cell BK105.out 3).trans rfl
                                    have hcz73_4 : wc.cell? ⟨gb105, 4, none⟩ = some (.slice A1_4 l1_4.length c1_4) := (blk_cell BK105.out 4).trans rfl
                                    have hcz73_5 : wc.cell? ⟨gb105, 5, none⟩ = some (.slice A1_5 l1_5.length c1_5) := (blk_cell BK105.out 5).trans rfl
                                    have hfz73_0 := blk_frozen BK105.out 0
                                    have hfz73_1 := blk_frozen BK105.out 1
                                    have hfz73_2 := blk_frozen BK105.out 2
                                    have hfz73_3 := blk_frozen BK105.out 3
                                    have hfz73_4 := blk_frozen BK105.out 4
                                    have hfz73_5 := blk_frozen BK105.out 5
                                    go_wp2_with (first | ((with_reducible refine gate_callee (f := 55) rfl ?_); refine goesL_ (some 77) rfl rfl Try.func55 (by kernel_rfl) rfl #[.int .i64 a1_1, .int .i64 1, .int .i64 11] rfl (by (try simp only [List.map_toArray, List.map_cons, List.map_nil]); first | done | rfl | (simp only [List.length_drop, List.length_take]; rfl)) ?_; (with_reducible refine (code_within.calls a1_1 1 11 false _ A67.out).mono ?_); rintro e w' ⟨rfl, ⟨nd, rfl⟩⟩; refine ⟨_, rfl, ?_⟩) | (go_at_call 55; (with_reducible refine (code_within.calls a1_1 31 42 t118 _ A71.out).mono ?_); rintro e w' ⟨rfl, ⟨nd, rfl⟩⟩))
                                    go_ret
                                    exact ⟨by first | rfl | (simp [errW_none, errW_some] <;> rfl) | (simp [*, errW_none, errW_some] <;> rfl), by repeat (first | (with_reducible first | exact HB.out | apply below_alloc | apply pw_below_drewN | apply below_drew1 | refine below_set ?_ GE104.out | refine below_set ?_ GE105.out) | exact HB.out)⟩
                                · rw [if_neg c66] at H
                                  have c66b0 : (a1_0 == 22) = false := beq_eq_false_iff_ne.mpr c66
                                  have c66b1 : (a1_0 != 22) = true := bne_iff_ne.mpr c66
                                  by_cases c74 : a1_0 = 23
                                  · rw [if_pos c74] at H
                                    have c74b0 : (a1_0 == 23) = true := beq_iff_eq.mpr c74
                                    have c74b1 : (a1_0 != 23) = false := bne_eq_false_iff_eq.mpr c74
                                    clear c74
                                    replace H := Option.bind_eq_some_iff.mp H
                                    obtain ⟨t119, A750, H⟩ := H
                                    replace H : (some t119) = some r := H
                                    have A75 := Aside0.mk A750
                                    clear A750
                                    obtain rfl := Option.some.inj H
                                    have hnb76 := NB105_104.out
                                    have hnc76 := NB104_105.out
                                    have hcz77_0 : wc.cell? ⟨gb105, 0, none⟩ = some (.int .i64 a1_0) := (blk_cell BK105.out 0).trans rfl
                                    have hcz77_1 : wc.cell? ⟨gb105, 1, none⟩ = some (.int .i64 a1_1) := (blk_cell BK105.out 1).trans rfl
                                    have hcz77_2 : wc.cell? ⟨gb105, 2, none⟩ = some (.int .i64 a1_2) := (blk_cell BK105.out 2).trans rfl
                                    have hcz77_3 : wc.cell? ⟨gb105, 3, none⟩ = some (.slice A1_3 l1_3.length c1_3) := (blk_cell BK105.out 3).trans rfl
                                    have hcz77_4 : wc.cell? ⟨gb105, 4, none⟩ = some (.slice A1_4 l1_4.length c1_4) := (blk_cell BK105.out 4).trans rfl
                                    have hcz77_5 : wc.cell? ⟨gb105, 5, none⟩ = some (.slice A1_5 l1_5.length c1_5) := (blk_cell BK105.out 5).trans rfl
                                    have hfz77_0 := blk_frozen BK105.out 0
                                    have hfz77_1 := blk_frozen BK105.out 1
                                    have hfz77_2 := blk_frozen BK105.out 2
                                    have hfz77_3 := blk_frozen BK105.out 3
                                    have hfz77_4 := blk_frozen BK105.out 4
                                    have hfz77_5 := blk_frozen BK105.out 5
                                    go_wp2_with (first | ((with_reducible refine gate_callee (f := 55) rfl ?_); refine goesL_ (some 87) rfl rfl Try.func55 (by kernel_rfl) rfl #[.int .i64 a1_1, .int .i64 1, .int .i64 12] rfl (by (try simp only [List.map_toArray, List.map_cons, List.map_nil]); first | done | rfl | (simp only [List.length_drop, List.length_take]; rfl)) ?_; (with_reducible refine (code_within.calls a1_1 1 12 t119 _ A75.out).mono ?_); rintro e w' ⟨rfl, ⟨nd, rfl⟩⟩; refine ⟨_, rfl, ?_⟩))
                                    go_ret
                                    exact ⟨by first | rfl | (simp [errW_none, errW_some] <;> rfl) | (simp [*, errW_none, errW_some] <;> rfl), by repeat (first | (with_reducible first | exact HB.out | apply below_alloc | apply pw_below_drewN | apply below_drew1 | refine below_set ?_ GE104.out | refine below_set ?_ GE105.out) | exact HB.out)⟩
                                  · rw [if_neg c74] at H
                                    have c74b0 : (a1_0 == 23) = false := beq_eq_false_iff_ne.mpr c74
                                    have c74b1 : (a1_0 != 23) = true := bne_iff_ne.mpr c74
                                    obtain rfl := Option.some.inj H
                                    have hnb78 := NB105_104.out
                                    have hnc78 := NB104_105.out
                                    have hcz79_0 : wc.cell? ⟨gb105, 0, none⟩ = some (.int .i64 a1_0) := (blk_cell BK105.out 0).trans rfl
                                    have hcz79_1 : wc.cell? ⟨gb105, 1, none⟩ = some (.int .i64 a1_1) := (blk_cell BK105.out 1).trans rfl
                                    have hcz79_2 : wc.cell? ⟨gb105, 2, none⟩ = some (.int .i64 a1_2) := (blk_cell BK105.out 2).trans rfl
                                    have hcz79_3 : wc.cell? ⟨gb105, 3, none⟩ = some (.slice A1_3 l1_3.length c1_3) := (blk_cell BK105.out 3).trans rfl
                                    have hcz79_4 : wc.cell? ⟨gb105, 4, none⟩ = some (.slice A1_4 l1_4.length c1_4) := (blk_cell BK105.out 4).trans rfl
                                    have hcz79_5 : wc.cell? ⟨gb105, 5, none⟩ = some (.slice A1_5 l1_5.length c1_5) := (blk_cell BK105.out 5).trans rfl
                                    have hfz79_0 := blk_frozen BK105.out 0
                                    have hfz79_1 := blk_frozen BK105.out 1
                                    have hfz79_2 := blk_frozen BK105.out 2
                                    have hfz79_3 := blk_frozen BK105.out 3
                                    have hfz79_4 := blk_frozen BK105.out 4
                                    have hfz79_5 := blk_frozen BK105.out 5
                                    go_wp2
                                    go_ret
                                    exact ⟨by first | rfl | (simp [errW_none, errW_some] <;> rfl) | (simp [*, errW_none, errW_some] <;> rfl), by repeat (first | (with_reducible first | exact HB.out | apply below_alloc | apply pw_below_drewN | apply below_drew1 | refine below_set ?_ GE104.out | refine below_set ?_ GE105.out) | exact HB.out)⟩

end Go.Proofs.Ytmjafkhkoifopaa.PCodeDecodes
