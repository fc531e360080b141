-- PRINTED BY print.sh 35421559b90ae4d0a3588c463048766b98c2df88dd9212a6774a882060cdf62d: not written by this session
import Derived.Test.YtmjafkhkoifopaaPCodeDecodesx0
namespace Go.Proofs.Ytmjafkhkoifopaa.PCodeDecodes
open Go.RowKit Go.Proofs.YtmjafkhkoifopaaW.PrintWords Go.Proofs.YtmjafkhkoifopaaW.PrintLast Go.Proofs.YtmjafkhkoifopaaW.PrintMore
attribute [local go_sem] max2_int min2_int max_two min_two max_three min_three max_four min_four   -- for this text's walks alone
set_option linter.unusedVariables false
set_option linter.unusedSimpArgs false

-- NOT PRINTED: function 19 (code_exns)

-- NOT PRINTED: function 40 (slices_IndexFunc_string_string)

-- NOT PRINTED: function 20 (slices_ContainsFunc_string_string)

/-! ### code_fields: function 28 -/
mutual
def code_fields.j0 : Nat → Int → Bool → Option (Int)
  | 0, _, _ => none
  | k + 1, x3, x4 => if x4 = true then (some 1) else (if x3 = 11 then (code_fields.j1 k x3 (x3 == 11)) else (code_fields.j1 k x3 (x3 == 17)))
def code_fields.j1 : Nat → Int → Bool → Option (Int)
  | 0, _, _ => none
  | k + 1, x3, x19 => if x19 = true then (some 3) else (if x3 = 9 then (code_fields.j2 k x3 (x3 == 9)) else (if x3 = 24 then (code_fields.j2 k x3 (x3 == 24)) else (if x3 = 25 then (code_fields.j2 k x3 (x3 == 25)) else (code_fields.j2 k x3 (x3 == 27)))))
def code_fields.j2 : Nat → Int → Bool → Option (Int)
  | 0, _, _ => none
  | k + 1, x3, x22 => if x22 = true then (some 8) else (if x3 = 15 then (some 9) else (if x3 = 16 then (some 17) else (if x3 = 26 then (some 20) else (if x3 = 6 then (some 0) else (if x3 = 12 then (some 0) else (if x3 = 20 then (some 0) else (if x3 = 21 then (some 0) else (if x3 = 28 then (some 0) else (if x3 = 29 then (some 0) else (if x3 = 30 then (some 0) else (some (-1))))))))))))
end
def code_fields.f (k : Nat) (a0 : Int) : Option (Int) := if a0 = 1 then (code_fields.j0 k a0 (a0 == 1)) else (if a0 = 2 then (code_fields.j0 k a0 (a0 == 2)) else (if a0 = 3 then (code_fields.j0 k a0 (a0 == 3)) else (if a0 = 7 then (code_fields.j0 k a0 (a0 == 7)) else (if a0 = 8 then (code_fields.j0 k a0 (a0 == 8)) else (if a0 = 14 then (code_fields.j0 k a0 (a0 == 14)) else (if a0 = 4 then (code_fields.j0 k a0 (a0 == 4)) else (if a0 = 18 then (code_fields.j0 k a0 (a0 == 18)) else (if a0 = 19 then (code_fields.j0 k a0 (a0 == 19)) else (if a0 = 5 then (code_fields.j0 k a0 (a0 == 5)) else (if a0 = 10 then (code_fields.j0 k a0 (a0 == 10)) else (if a0 = 13 then (code_fields.j0 k a0 (a0 == 13)) else (if a0 = 22 then (code_fields.j0 k a0 (a0 == 22)) else (code_fields.j0 k a0 (a0 == 23))))))))))))))
theorem code_fields.mono_l : ∀ k, (∀ y0 y1, LeO (code_fields.j0 k y0 y1) (code_fields.j0 (k + 1) y0 y1)) ∧ (∀ y0 y1, LeO (code_fields.j1 k y0 y1) (code_fields.j1 (k + 1) y0 y1)) ∧ (∀ y0 y1, LeO (code_fields.j2 k y0 y1) (code_fields.j2 (k + 1) y0 y1))
  | 0 => ⟨fun _ _ r h => by simp [code_fields.j0] at h, fun _ _ r h => by simp [code_fields.j1] at h, fun _ _ r h => by simp [code_fields.j2] at h⟩
  | k + 1 => by
    obtain ⟨ih0, ih1, ih2⟩ := code_fields.mono_l k
    refine ⟨?_, ?_, ?_⟩
    · intro y0 y1
      unfold code_fields.j0
      repeat' first
      | (with_reducible exact ih0 _ _)
      | (with_reducible exact ih1 _ _)
      | (with_reducible exact ih2 _ _)
      | (with_reducible exact LeO.refl _)
      | (with_reducible exact LeO.none _)
      | (with_reducible refine LeO.ite ?_ ?_)
      | (with_reducible refine LeO.bind ?_ (fun _ => ?_))
      | exact ih0 _ _
      | exact ih1 _ _
      | exact ih2 _ _
      | exact LeO.none _
      | refine LeO.ite ?_ ?_
      | refine LeO.bind ?_ (fun _ => ?_)
    · intro y0 y1
      unfold code_fields.j1
      repeat' first
      | (with_reducible exact ih0 _ _)
      | (with_reducible exact ih1 _ _)
      | (with_reducible exact ih2 _ _)
      | (with_reducible exact LeO.refl _)
      | (with_reducible exact LeO.none _)
      | (with_reducible refine LeO.ite ?_ ?_)
      | (with_reducible refine LeO.bind ?_ (fun _ => ?_))
      | exact ih0 _ _
      | exact ih1 _ _
      | exact ih2 _ _
      | exact LeO.none _
      | refine LeO.ite ?_ ?_
      | refine LeO.bind ?_ (fun _ => ?_)
    · intro y0 y1
      unfold code_fields.j2
      repeat' first
      | (with_reducible exact ih0 _ _)
      | (with_reducible exact ih1 _ _)
      | (with_reducible exact ih2 _ _)
      | (with_reducible exact LeO.refl _)
      | (with_reducible exact LeO.none _)
      | (with_reducible refine LeO.ite ?_ ?_)
      | (with_reducible refine LeO.bind ?_ (fun _ => ?_))
      | exact ih0 _ _
      | exact ih1 _ _
      | exact ih2 _ _
      | exact LeO.none _
      | refine LeO.ite ?_ ?_
      | refine LeO.bind ?_ (fun _ => ?_)
theorem code_fields.mono : ∀ a0 k, LeO (code_fields.f k a0) (code_fields.f (k + 1) a0) := by
  intro a0 k
  obtain ⟨ih0, ih1, ih2⟩ := code_fields.mono_l k
  unfold code_fields.f
  repeat' first
      | (with_reducible exact ih0 _ _)
      | (with_reducible exact ih1 _ _)
      | (with_reducible exact ih2 _ _)
      | (with_reducible exact LeO.refl _)
      | (with_reducible exact LeO.none _)
      | (with_reducible refine LeO.ite ?_ ?_)
      | (with_reducible refine LeO.bind ?_ (fun _ => ?_))
      | exact ih0 _ _
      | exact ih1 _ _
      | exact ih2 _ _
      | exact LeO.none _
      | refine LeO.ite ?_ ?_
      | refine LeO.bind ?_ (fun _ => ?_)
set_option maxHeartbeats 8000000 in
set_option maxRecDepth 100000 in
theorem code_fields.calls (k : Nat) (a0 : Int) (r : Int) (w : World) (h : code_fields.f k a0 = some r) :
    Calls Try.prog 28 #[.int .i64 a0] w fun e w' => e = .returned (.int .i64 r) ∧ Drawn0 w w' := by
  have H : (if a0 = 1 then (code_fields.j0 k a0 (a0 == 1)) else (if a0 = 2 then (code_fields.j0 k a0 (a0 == 2)) else (if a0 = 3 then (code_fields.j0 k a0 (a0 == 3)) else (if a0 = 7 then (code_fields.j0 k a0 (a0 == 7)) else (if a0 = 8 then (code_fields.j0 k a0 (a0 == 8)) else (if a0 = 14 then (code_fields.j0 k a0 (a0 == 14)) else (if a0 = 4 then (code_fields.j0 k a0 (a0 == 4)) else (if a0 = 18 then (code_fields.j0 k a0 (a0 == 18)) else (if a0 = 19 then (code_fields.j0 k a0 (a0 == 19)) else (if a0 = 5 then (code_fields.j0 k a0 (a0 == 5)) else (if a0 = 10 then (code_fields.j0 k a0 (a0 == 10)) else (if a0 = 13 then (code_fields.j0 k a0 (a0 == 13)) else (if a0 = 22 then (code_fields.j0 k a0 (a0 == 22)) else (code_fields.j0 k a0 (a0 == 23))))))))))))))) = some r := h
  clear h
  have HC2 := Aside0.mk H
  clear H
  go_enter Try.func28, Try.ntmps28
  go_upto_if 4 with (fail)
  go_cut [4] (fun v4 wc => ∃ (kq : Nat) (x4_1 : Bool), v4 = .bool x4_1 ∧ Aside0 (code_fields.j0 kq a0 x4_1 = some r) ∧ Aside0 (kq ≤ k) ∧ Drawn0 w wc)
  case first =>
    have H := HC2.out
    clear HC2
    by_cases c3 : a0 = 1
    · rw [if_pos c3] at H
      have c3b0 : (a0 == 1) = true := beq_iff_eq.mpr c3
      have c3b1 : (a0 != 1) = false := bne_eq_false_iff_eq.mpr c3
      clear c3
      (first | rw [c3b0] | (simp only [i64_w, i32_w]; rw [c3b0]) | skip)
      have H' := Aside0.mk H
      clear H
      go_wp2
      go_meet
      case rel => exact ⟨_, ((a0 == 1)), (by first | rfl | (simp; done) | (simp [*]; done)), H', ⟨by first | omega | exact Nat.le_refl _⟩, by repeat (first | exact Drawn0.refl _ | apply Drawn0.step)⟩
    · rw [if_neg c3] at H
      have c3b0 : (a0 == 1) = false := beq_eq_false_iff_ne.mpr c3
      have c3b1 : (a0 != 1) = true := bne_iff_ne.mpr c3
      (first | rw [c3b0] | (simp only [i64_w, i32_w]; rw [c3b0]) | skip)
      by_cases c4 : a0 = 2
      · rw [if_pos c4] at H
        have c4b0 : (a0 == 2) = true := beq_iff_eq.mpr c4
        have c4b1 : (a0 != 2) = false := bne_eq_false_iff_eq.mpr c4
        clear c4
        have H' := Aside0.mk H
        clear H
        go_wp2
        go_meet
        case rel => exact ⟨_, ((a0 == 2)), (by first | rfl | (simp; done) | (simp [*]; done)), H', ⟨by first | omega | exact Nat.le_refl _⟩, by repeat (first | exact Drawn0.refl _ | apply Drawn0.step)⟩
      · rw [if_neg c4] at H
        have c4b0 : (a0 == 2) = false := beq_eq_false_iff_ne.mpr c4
        have c4b1 : (a0 != 2) = true := bne_iff_ne.mpr c4
        by_cases c5 : a0 = 3
        · rw [if_pos c5] at H
          have c5b0 : (a0 == 3) = true := beq_iff_eq.mpr c5
          have c5b1 : (a0 != 3) = false := bne_eq_false_iff_eq.mpr c5
          clear c5
          have H' := Aside0.mk H
          clear H
          go_wp2
          go_meet
          case rel => exact ⟨_, ((a0 == 3)), (by first | rfl | (simp; done) | (simp [*]; done)), H', ⟨by first | omega | exact Nat.le_refl _⟩, by repeat (first | exact Drawn0.refl _ | apply Drawn0.step)⟩
        · rw [if_neg c5] at H
          have c5b0 : (a0 == 3) = false := beq_eq_false_iff_ne.mpr c5
          have c5b1 : (a0 != 3) = true := bne_iff_ne.mpr c5
          by_cases c6 : a0 = 7
          · rw [if_pos c6] at H
            have c6b0 : (a0 == 7) = true := beq_iff_eq.mpr c6
            have c6b1 : (a0 != 7) = false := bne_eq_false_iff_eq.mpr c6
            clear c6
            have H' := Aside0.mk H
            clear H
            go_wp2
            go_meet
            case rel => exact ⟨_, ((a0 == 7)), (by first | rfl | (simp; done) | (simp [*]; done)), H', ⟨by first | omega | exact Nat.le_refl _⟩, by repeat (first | exact Drawn0.refl _ | apply Drawn0.step)⟩
          · rw [if_neg c6] at H
            have c6b0 : (a0 == 7) = false := beq_eq_false_iff_ne.mpr c6
            have c6b1 : (a0 != 7) = true := bne_iff_ne.mpr c6
            by_cases c7 : a0 = 8
            · rw [if_pos c7] at H
              have c7b0 : (a0 == 8) = true := beq_iff_eq.mpr c7
              have c7b1 : (a0 != 8) = false := bne_eq_false_iff_eq.mpr c7
              clear c7
              have H' := Aside0.mk H
              clear H
              go_wp2
              go_meet
              case rel => exact ⟨_, ((a0 == 8)), (by first | rfl | (simp; done) | (simp [*]; done)), H', ⟨by first | omega | exact Nat.le_refl _⟩, by repeat (first | exact Drawn0.refl _ | apply Drawn0.step)⟩
            · rw [if_neg c7] at H
              have c7b0 : (a0 == 8) = false := beq_eq_false_iff_ne.mpr c7
              have c7b1 : (a0 != 8) = true := bne_iff_ne.mpr c7
              by_cases c8 : a0 = 14
              · rw [if_pos c8] at H
                have c8b0 : (a0 == 14) = true := beq_iff_eq.mpr c8
                have c8b1 : (a0 != 14) = false := bne_eq_false_iff_eq.mpr c8
                clear c8
                have H' := Aside0.mk H
                clear H
                go_wp2
                go_meet
                case rel => exact ⟨_, ((a0 == 14)), (by first | rfl | (simp; done) | (simp [*]; done)), H', ⟨by first | omega | exact Nat.le_refl _⟩, by repeat (first | exact Drawn0.refl _ | apply Drawn0.step)⟩
              · rw [if_neg c8] at H
                have c8b0 : (a0 == 14) = false := beq_eq_false_iff_ne.mpr c8
                have c8b1 : (a0 != 14) = true := bne_iff_ne.mpr c8
                by_cases c9 : a0 = 4
                · rw [if_pos c9] at H
                  have c9b0 : (a0 == 4) = true := beq_iff_eq.mpr c9
                  have c9b1 : (a0 != 4) = false := bne_eq_false_iff_eq.mpr c9
                  clear c9
                  have H' := Aside0.mk H
                  clear H
                  go_wp2
                  go_meet
                  case rel => exact ⟨_, ((a0 == 4)), (by first | rfl | (simp; done) | (simp [*]; done)), H', ⟨by first | omega | exact Nat.le_refl _⟩, by repeat (first | exact Drawn0.refl _ | apply Drawn0.step)⟩
                · rw [if_neg c9] at H
                  have c9b0 : (a0 == 4) = false := beq_eq_false_iff_ne.mpr c9
                  have c9b1 : (a0 != 4) = true := bne_iff_ne.mpr c9
                  by_cases c10 : a0 = 18
                  · rw [if_pos c10] at H
                    have c10b0 : (a0 == 18) = true := beq_iff_eq.mpr c10
                    have c10b1 : (a0 != 18) = false := bne_eq_false_iff_eq.mpr c10
                    clear c10
                    have H' := Aside0.mk H
                    clear H
                    go_wp2
                    go_meet
                    case rel => exact ⟨_, ((a0 == 18)), (by first | rfl | (simp; done) | (simp [*]; done)), H', ⟨by first | omega | exact Nat.le_refl _⟩, by repeat (first | exact Drawn0.refl _ | apply Drawn0.step)⟩
                  · rw [if_neg c10] at H
                    have c10b0 : (a0 == 18) = false := beq_eq_false_iff_ne.mpr c10
                    have c10b1 : (a0 != 18) = true := bne_iff_ne.mpr c10
                    by_cases c11 : a0 = 19
                    · rw [if_pos c11] at H
                      have c11b0 : (a0 == 19) = true := beq_iff_eq.mpr c11
                      have c11b1 : (a0 != 19) = false := bne_eq_false_iff_eq.mpr c11
                      clear c11
                      have H' := Aside0.mk H
                      clear H
                      go_wp2
                      go_meet
                      case rel => exact ⟨_, ((a0 == 19)), (by first | rfl | (simp; done) | (simp [*]; done)), H', ⟨by first | omega | exact Nat.le_refl _⟩, by repeat (first | exact Drawn0.refl _ | apply Drawn0.step)⟩
                    · rw [if_neg c11] at H
                      have c11b0 : (a0 == 19) = false := beq_eq_false_iff_ne.mpr c11
                      have c11b1 : (a0 != 19) = true := bne_iff_ne.mpr c11
                      by_cases c12 : a0 = 5
                      · rw [if_pos c12] at H
                        have c12b0 : (a0 == 5) = true := beq_iff_eq.mpr c12
                        have c12b1 : (a0 != 5) = false := bne_eq_false_iff_eq.mpr c12
                        clear c12
                        have H' := Aside0.mk H
                        clear H
                        go_wp2
                        go_meet
                        case rel => exact ⟨_, ((a0 == 5)), (by first | rfl | (simp; done) | (simp [*]; done)), H', ⟨by first | omega | exact Nat.le_refl _⟩, by repeat (first | exact Drawn0.refl _ | apply Drawn0.step)⟩
                      · rw [if_neg c12] at H
                        have c12b0 : (a0 == 5) = false := beq_eq_false_iff_ne.mpr c12
                        have c12b1 : (a0 != 5) = true := bne_iff_ne.mpr c12
                        by_cases c13 : a0 = 10
                        · rw [if_pos c13] at H
                          have c13b0 : (a0 == 10) = true := beq_iff_eq.mpr c13
                          have c13b1 : (a0 != 10) = false := bne_eq_false_iff_eq.mpr c13
                          clear c13
                          have H' := Aside0.mk H
                          clear H
                          go_wp2
                          go_meet
                          case rel => exact ⟨_, ((a0 == 10)), (by first | rfl | (simp; done) | (simp [*]; done)), H', ⟨by first | omega | exact Nat.le_refl _⟩, by repeat (first | exact Drawn0.refl _ | apply Drawn0.step)⟩
                        · rw [if_neg c13] at H
                          have c13b0 : (a0 == 10) = false := beq_eq_false_iff_ne.mpr c13
                          have c13b1 : (a0 != 10) = true := bne_iff_ne.mpr c13
                          by_cases c14 : a0 = 13
                          · rw [if_pos c14] at H
                            have c14b0 : (a0 == 13) = true := beq_iff_eq.mpr c14
                            have c14b1 : (a0 != 13) = false := bne_eq_false_iff_eq.mpr c14
                            clear c14
                            have H' := Aside0.mk H
                            clear H
                            go_wp2
                            go_meet
                            case rel => exact ⟨_, ((a0 == 13)), (by first | rfl | (simp; done) | (simp [*]; done)), H', ⟨by first | omega | exact Nat.le_refl _⟩, by repeat (first | exact Drawn0.refl _ | apply Drawn0.step)⟩
                          · rw [if_neg c14] at H
                            have c14b0 : (a0 == 13) = false := beq_eq_false_iff_ne.mpr c14
                            have c14b1 : (a0 != 13) = true := bne_iff_ne.mpr c14
                            by_cases c15 : a0 = 22
                            · rw [if_pos c15] at H
                              have c15b0 : (a0 == 22) = true := beq_iff_eq.mpr c15
                              have c15b1 : (a0 != 22) = false := bne_eq_false_iff_eq.mpr c15
                              clear c15
                              have H' := Aside0.mk H
                              clear H
                              go_wp2
                              go_meet
                              case rel => exact ⟨_, ((a0 == 22)), (by first | rfl | (simp; done) | (simp [*]; done)), H', ⟨by first | omega | exact Nat.le_refl _⟩, by repeat (first | exact Drawn0.refl _ | apply Drawn0.step)⟩
                            · rw [if_neg c15] at H
                              have c15b0 : (a0 == 22) = false := beq_eq_false_iff_ne.mpr c15
                              have c15b1 : (a0 != 22) = true := bne_iff_ne.mpr c15
                              have H' := Aside0.mk H
                              clear H
                              go_wp2
                              go_meet
                              case rel => exact ⟨_, ((a0 == 23)), (by first | rfl | (simp; done) | (simp [*]; done)), H', ⟨by first | omega | exact Nat.le_refl _⟩, by repeat (first | exact Drawn0.refl _ | apply Drawn0.step)⟩
  case rest =>
    clear HC2
    try clear c1
    try clear c2
    try clear p2
    try clear c3
    try clear c3b0
    try clear c3b1
    try clear c4
    try clear c4b0
    try clear c4b1
    try clear c5
    try clear c5b0
    try clear c5b1
    try clear c6
    try clear c6b0
    try clear c6b1
    try clear c7
    try clear c7b0
    try clear c7b1
    try clear c8
    try clear c8b0
    try clear c8b1
    try clear c9
    try clear c9b0
    try clear c9b1
    try clear c10
    try clear c10b0
    try clear c10b1
    try clear c11
    try clear c11b0
    try clear c11b1
    try clear c12
    try clear c12b0
    try clear c12b1
    try clear c13
    try clear c13b0
    try clear c13b1
    try clear c14
    try clear c14b0
    try clear c14b1
    try clear c15
    try clear c15b0
    try clear c15b1
    obtain ⟨kq, x4_1, rfl, HA, HJ1, ⟨mc1, rfl⟩⟩ := hcut
    cases kq with
    | zero => exact absurd HA.out (by simp [code_fields.j0])
    | succ kj1 =>
      have H := HA.out
      clear HA
      simp only [code_fields.j0] at H
      by_cases c16 : x4_1 = true
      · subst c16
        have H1 : (some 1) = some r := by rw [if_pos rfl] at H; exact H
        clear H
        have H := H1
        clear H1
        obtain rfl := Option.some.inj H
        go_wp2
        go_ret
        exact ⟨by first | rfl | (simp; done) | (simp [*]; done), by repeat (first | exact Drawn0.refl _ | apply Drawn0.step)⟩
      · replace c16 := Bool.eq_false_iff.mpr c16
        subst c16
        have H1 : (if a0 = 11 then (code_fields.j1 kj1 a0 (a0 == 11)) else (code_fields.j1 kj1 a0 (a0 == 17))) = some r := by rw [if_neg (show ¬ (false = true) by decide)] at H; exact H
        clear H
        have H := H1
        clear H1
        have HC17 := Aside0.mk H
        clear H
        go_upto_if 19 with (fail)
        go_cut [19] (fun v19 wc => ∃ (kq : Nat) (x19_16 : Bool), v19 = .bool x19_16 ∧ Aside0 (code_fields.j1 kq a0 x19_16 = some r) ∧ Aside0 (kq ≤ kj1) ∧ Drawn0 w wc)
        case first =>
          have H := HC17.out
          clear HC17
          by_cases c18 : a0 = 11
          · rw [if_pos c18] at H
            have c18b0 : (a0 == 11) = true := beq_iff_eq.mpr c18
            have c18b1 : (a0 != 11) = false := bne_eq_false_iff_eq.mpr c18
            clear c18
            (first | rw [c18b0] | (simp only [i64_w, i32_w]; rw [c18b0]) | skip)
            have H' := Aside0.mk H
            clear H
            go_wp2
            go_meet
            case rel => exact ⟨_, ((a0 == 11)), (by first | rfl | (simp; done) | (simp [*]; done)), H', ⟨by have := HJ1.out; first | omega | exact Nat.le_refl _⟩, by repeat (first | exact Drawn0.refl _ | apply Drawn0.step)⟩
          · rw [if_neg c18] at H
            have c18b0 : (a0 == 11) = false := beq_eq_false_iff_ne.mpr c18
            have c18b1 : (a0 != 11) = true := bne_iff_ne.mpr c18
            (first | rw [c18b0] | (simp only [i64_w, i32_w]; rw [c18b0]) | skip)
            have H' := Aside0.mk H
            clear H
            go_wp2
            go_meet
            case rel => exact ⟨_, ((a0 == 17)), (by first | rfl | (simp; done) | (simp [*]; done)), H', ⟨by have := HJ1.out; first | omega | exact Nat.le_refl _⟩, by repeat (first | exact Drawn0.refl _ | apply Drawn0.step)⟩
        case rest =>
          clear HC17
          try clear c1
          try clear c2
          try clear p2
          try clear c3
          try clear c3b0
          try clear c3b1
          try clear c4
          try clear c4b0
          try clear c4b1
          try clear c5
          try clear c5b0
          try clear c5b1
          try clear c6
          try clear c6b0
          try clear c6b1
          try clear c7
          try clear c7b0
          try clear c7b1
          try clear c8
          try clear c8b0
          try clear c8b1
          try clear c9
          try clear c9b0
          try clear c9b1
          try clear c10
          try clear c10b0
          try clear c10b1
          try clear c11
          try clear c11b0
          try clear c11b1
          try clear c12
          try clear c12b0
          try clear c12b1
          try clear c13
          try clear c13b0
          try clear c13b1
          try clear c14
          try clear c14b0
          try clear c14b1
          try clear c15
          try clear c15b0
          try clear c15b1
          try clear c16
          try clear c18
          try clear c18b0
          try clear c18b1
          try clear p2
          obtain ⟨kq, x19_16, rfl, HA, HJ16, ⟨mc16, rfl⟩⟩ := hcut
          cases kq with
          | zero => exact absurd HA.out (by simp [code_fields.j1])
          | succ kj16 =>
            have H := HA.out
            clear HA
            simp only [code_fields.j1] at H
            by_cases c19 : x19_16 = true
            · subst c19
              have H1 : (some 3) = some r := by rw [if_pos rfl] at H; exact H
              clear H
              have H := H1
              clear H1
              obtain rfl := Option.some.inj H
              go_wp2
              go_ret
              exact ⟨by first | rfl | (simp; done) | (simp [*]; done), by repeat (first | exact Drawn0.refl _ | apply Drawn0.step)⟩
            · replace c19 := Bool.eq_false_iff.mpr c19
              subst c19
              have H1 : (if a0 = 9 then (code_fields.j2 kj16 a0 (a0 == 9)) else (if a0 = 24 then (code_fields.j2 kj16 a0 (a0 == 24)) else (if a0 = 25 then (code_fields.j2 kj16 a0 (a0 == 25)) else (code_fields.j2 kj16 a0 (a0 == 27))))) = some r := by rw [if_neg (show ¬ (false = true) by decide)] at H; exact H
              clear H
              have H := H1
              clear H1
              have HC20 := Aside0.mk H
              clear H
              go_upto_if 22 with (fail)
              go_cut [22] (fun v22 wc => ∃ (kq : Nat) (x22_19 : Bool), v22 = .bool x22_19 ∧ Aside0 (code_fields.j2 kq a0 x22_19 = some r) ∧ Aside0 (kq ≤ kj16) ∧ Drawn0 w wc)
              case first =>
                have H := HC20.out
                clear HC20
                by_cases c21 : a0 = 9
                · rw [if_pos c21] at H
                  have c21b0 : (a0 == 9) = true := beq_iff_eq.mpr c21
                  have c21b1 : (a0 != 9) = false := bne_eq_false_iff_eq.mpr c21
                  clear c21
                  (first | rw [c21b0] | (simp only [i64_w, i32_w]; rw [c21b0]) | skip)
                  have H' := Aside0.mk H
                  clear H
                  go_wp2
                  go_meet
                  case rel => exact ⟨_, ((a0 == 9)), (by first | rfl | (simp; done) | (simp [*]; done)), H', ⟨by have := HJ1.out; have := HJ16.out; first | omega | exact Nat.le_refl _⟩, by repeat (first | exact Drawn0.refl _ | apply Drawn0.step)⟩
                · rw [if_neg c21] at H
                  have c21b0 : (a0 == 9) = false := beq_eq_false_iff_ne.mpr c21
                  have c21b1 : (a0 != 9) = true := bne_iff_ne.mpr c21
                  (first | rw [c21b0] | (simp only [i64_w, i32_w]; rw [c21b0]) | skip)
                  by_cases c22 : a0 = 24
                  · rw [if_pos c22] at H
                    have c22b0 : (a0 == 24) = true := beq_iff_eq.mpr c22
                    have c22b1 : (a0 != 24) = false := bne_eq_false_iff_eq.mpr c22
                    clear c22
                    have H' := Aside0.mk H
                    clear H
                    go_wp2
                    go_meet
                    case rel => exact ⟨_, ((a0 == 24)), (by first | rfl | (simp; done) | (simp [*]; done)), H', ⟨by have := HJ1.out; have := HJ16.out; first | omega | exact Nat.le_refl _⟩, by repeat (first | exact Drawn0.refl _ | apply Drawn0.step)⟩
                  · rw [if_neg c22] at H
                    have c22b0 : (a0 == 24) = false := beq_eq_false_iff_ne.mpr c22
                    have c22b1 : (a0 != 24) = true := bne_iff_ne.mpr c22
                    by_cases c23 : a0 = 25
                    · rw [if_pos c23] at H
                      have c23b0 : (a0 == 25) = true := beq_iff_eq.mpr c23
                      have c23b1 : (a0 != 25) = false := bne_eq_false_iff_eq.mpr c23
                      clear c23
                      have H' := Aside0.mk H
                      clear H
                      go_wp2
                      go_meet
                      case rel => exact ⟨_, ((a0 == 25)), (by first | rfl | (simp; done) | (simp [*]; done)), H', ⟨by have := HJ1.out; have := HJ16.out; first | omega | exact Nat.le_refl _⟩, by repeat (first | exact Drawn0.refl _ | apply Drawn0.step)⟩
                    · rw [if_neg c23] at H
                      have c23b0 : (a0 == 25) = false := beq_eq_false_iff_ne.mpr c23
                      have c23b1 : (a0 != 25) = true := bne_iff_ne.mpr c23
                      have H' := Aside0.mk H
                      clear H
                      go_wp2
                      go_meet
                      case rel => exact ⟨_, ((a0 == 27)), (by first | rfl | (simp; done) | (simp [*]; done)), H', ⟨by have := HJ1.out; have := HJ16.out; first | omega | exact Nat.le_refl _⟩, by repeat (first | exact Drawn0.refl _ | apply Drawn0.step)⟩
              case rest =>
                clear HC20
                try clear c1
                try clear c2
                try clear p2
                try clear c3
                try clear c3b0
                try clear c3b1
                try clear c4
                try clear c4b0
                try clear c4b1
                try clear c5
                try clear c5b0
                try clear c5b1
                try clear c6
                try clear c6b0
                try clear c6b1
                try clear c7
                try clear c7b0
                try clear c7b1
                try clear c8
                try clear c8b0
                try clear c8b1
                try clear c9
                try clear c9b0
                try clear c9b1
                try clear c10
                try clear c10b0
                try clear c10b1
                try clear c11
                try clear c11b0
                try clear c11b1
                try clear c12
                try clear c12b0
                try clear c12b1
                try clear c13
                try clear c13b0
                try clear c13b1
                try clear c14
                try clear c14b0
                try clear c14b1
                try clear c15
                try clear c15b0
                try clear c15b1
                try clear c16
                try clear c18
                try clear c18b0
                try clear c18b1
                try clear c19
                try clear c21
                try clear c21b0
                try clear c21b1
                try clear c22
                try clear c22b0
                try clear c22b1
                try clear c23
                try clear c23b0
                try clear c23b1
                try clear p2
                obtain ⟨kq, x22_19, rfl, HA, HJ19, ⟨mc19, rfl⟩⟩ := hcut
                cases kq with
                | zero => exact absurd HA.out (by simp [code_fields.j2])
                | succ kj19 =>
                  have H := HA.out
                  clear HA
                  simp only [code_fields.j2] at H
                  by_cases c24 : x22_19 = true
                  · subst c24
                    have H1 : (some 8) = some r := by rw [if_pos rfl] at H; exact H
                    clear H
                    have H := H1
                    clear H1
                    obtain rfl := Option.some.inj H
                    go_wp2
                    go_ret
                    exact ⟨by first | rfl | (simp; done) | (simp [*]; done), by repeat (first | exact Drawn0.refl _ | apply Drawn0.step)⟩
                  · replace c24 := Bool.eq_false_iff.mpr c24
                    subst c24
                    have H1 : (if a0 = 15 then (some 9) else (if a0 = 16 then (some 17) else (if a0 = 26 then (some 20) else (if a0 = 6 then (some 0) else (if a0 = 12 then (some 0) else (if a0 = 20 then (some 0) else (if a0 = 21 then (some 0) else (if a0 = 28 then (some 0) else (if a0 = 29 then (some 0) else (if a0 = 30 then (some 0) else (some (-1)))))))))))) = some r := by rw [if_neg (show ¬ (false = true) by decide)] at H; exact H
                    clear H
                    have H := H1
                    clear H1
                    by_cases c25 : a0 = 15
                    · rw [if_pos c25] at H
                      have c25b0 : (a0 == 15) = true := beq_iff_eq.mpr c25
                      have c25b1 : (a0 != 15) = false := bne_eq_false_iff_eq.mpr c25
                      clear c25
                      obtain rfl := Option.some.inj H
                      go_wp2
                      go_ret
                      exact ⟨by first | rfl | (simp; done) | (simp [*]; done), by repeat (first | exact Drawn0.refl _ | apply Drawn0.step)⟩
                    · rw [if_neg c25] at H
                      have c25b0 : (a0 == 15) = false := beq_eq_false_iff_ne.mpr c25
                      have c25b1 : (a0 != 15) = true := bne_iff_ne.mpr c25
                      by_cases c26 : a0 = 16
                      · rw [if_pos c26] at H
                        have c26b0 : (a0 == 16) = true := beq_iff_eq.mpr c26
                        have c26b1 : (a0 != 16) = false := bne_eq_false_iff_eq.mpr c26
                        clear c26
                        obtain rfl := Option.some.inj H
                        go_wp2
                        go_ret
                        exact ⟨by first | rfl | (simp; done) | (simp [*]; done), by repeat (first | exact Drawn0.refl _ | apply Drawn0.step)⟩
                      · rw [if_neg c26] at H
                        have c26b0 : (a0 == 16) = false := beq_eq_false_iff_ne.mpr c26
                        have c26b1 : (a0 != 16) = true := bne_iff_ne.mpr c26
                        by_cases c27 : a0 = 26
                        · rw [if_pos c27] at H
                          have c27b0 : (a0 == 26) = true := beq_iff_eq.mpr c27
                          have c27b1 : (a0 != 26) = false := bne_eq_false_iff_eq.mpr c27
                          clear c27
                          obtain rfl := Option.some.inj H
                          go_wp2
                          go_ret
                          exact ⟨by first | rfl | (simp; done) | (simp [*]; done), by repeat (first | exact Drawn0.refl _ | apply Drawn0.step)⟩
                        · rw [if_neg c27] at H
                          have c27b0 : (a0 == 26) = false := beq_eq_false_iff_ne.mpr c27
                          have c27b1 : (a0 != 26) = true := bne_iff_ne.mpr c27
                          by_cases c28 : a0 = 6
                          · rw [if_pos c28] at H
                            have c28b0 : (a0 == 6) = true := beq_iff_eq.mpr c28
                            have c28b1 : (a0 != 6) = false := bne_eq_false_iff_eq.mpr c28
                            clear c28
                            obtain rfl := Option.some.inj H
                            go_wp2
                            go_ret
                            exact ⟨by first | rfl | (simp; done) | (simp [*]; done), by repeat (first | exact Drawn0.refl _ | apply Drawn0.step)⟩
                          · rw [if_neg c28] at H
                            have c28b0 : (a0 == 6) = false := beq_eq_false_iff_ne.mpr c28
                            have c28b1 : (a0 != 6) = true := bne_iff_ne.mpr c28
                            by_cases c29 : a0 = 12
                            · rw [if_pos c29] at H
                              have c29b0 : (a0 == 12) = true := beq_iff_eq.mpr c29
                              have c29b1 : (a0 != 12) = false := bne_eq_false_iff_eq.mpr c29
                              clear c29
                              obtain rfl := Option.some.inj H
                              go_wp2
                              go_ret
                              exact ⟨by first | rfl | (simp; done) | (simp [*]; done), by repeat (first | exact Drawn0.refl _ | apply Drawn0.step)⟩
                            · rw [if_neg c29] at H
                              have c29b0 : (a0 == 12) = false := beq_eq_false_iff_ne.mpr c29
                              have c29b1 : (a0 != 12) = true := bne_iff_ne.mpr c29
                              by_cases c30 : a0 = 20
                              · rw [if_pos c30] at H
                                have c30b0 : (a0 == 20) = true := beq_iff_eq.mpr c30
                                have c30b1 : (a0 != 20) = false := bne_eq_false_iff_eq.mpr c30
                                clear c30
                                obtain rfl := Option.some.inj H
                                go_wp2
                                go_ret
                                exact ⟨by first | rfl | (simp; done) | (simp [*]; done), by repeat (first | exact Drawn0.refl _ | apply Drawn0.step)⟩
                              · rw [if_neg c30] at H
                                have c30b0 : (a0 == 20) = false := beq_eq_false_iff_ne.mpr c30
                                have c30b1 : (a0 != 20) = true := bne_iff_ne.mpr c30
                                by_cases c31 : a0 = 21
                                · rw [if_pos c31] at H
                                  have c31b0 : (a0 == 21) = true := beq_iff_eq.mpr c31
                                  have c31b1 : (a0 != 21) = false := bne_eq_false_iff_eq.mpr c31
                                  clear c31
                                  obtain rfl := Option.some.inj H
                                  go_wp2
                                  go_ret
                                  exact ⟨by first | rfl | (simp; done) | (simp [*]; done), by repeat (first | exact Drawn0.refl _ | apply Drawn0.step)⟩
                                · rw [if_neg c31] at H
                                  have c31b0 : (a0 == 21) = false := beq_eq_false_iff_ne.mpr c31
                                  have c31b1 : (a0 != 21) = true := bne_iff_ne.mpr c31
                                  by_cases c32 : a0 = 28
                                  · rw [if_pos c32] at H
                                    have c32b0 : (a0 == 28) = true := beq_iff_eq.mpr c32
                                    have c32b1 : (a0 != 28) = false := bne_eq_false_iff_eq.mpr c32
                                    clear c32
                                    obtain rfl := Option.some.inj H
                                    go_wp2
                                    go_ret
                                    exact ⟨by first | rfl | (simp; done) | (simp [*]; done), by repeat (first | exact Drawn0.refl _ | apply Drawn0.step)⟩
                                  · rw [if_neg c32] at H
                                    have c32b0 : (a0 == 28) = false := beq_eq_false_iff_ne.mpr c32
                                    have c32b1 : (a0 != 28) = true := bne_iff_ne.mpr c32
                                    by_cases c33 : a0 = 29
                                    · rw [if_pos c33] at H
                                      have c33b0 : (a0 == 29) = true := beq_iff_eq.mpr c33
                                      have c33b1 : (a0 != 29) = false := bne_eq_false_iff_eq.mpr c33
                                      clear c33
                                      obtain rfl := Option.some.inj H
                                      go_wp2
                                      go_ret
                                      exact ⟨by first | rfl | (simp; done) | (simp [*]; done), by repeat (first | exact Drawn0.refl _ | apply Drawn0.step)⟩
                                    · rw [if_neg c33] at H
                                      have c33b0 : (a0 == 29) = false := beq_eq_false_iff_ne.mpr c33
                                      have c33b1 : (a0 != 29) = true := bne_iff_ne.mpr c33
                                      by_cases c34 : a0 = 30
                                      · rw [if_pos c34] at H
                                        have c34b0 : (a0 == 30) = true := beq_iff_eq.mpr c34
                                        have c34b1 : (a0 != 30) = false := bne_eq_false_iff_eq.mpr c34
                                        clear c34
                                        obtain rfl := Option.some.inj H
                                        go_wp2
                                        go_ret
                                        exact ⟨by first | rfl | (simp; done) | (simp [*]; done), by repeat (first | exact Drawn0.refl _ | apply Drawn0.step)⟩
                                      · rw [if_neg c34] at H
                                        have c34b0 : (a0 == 30) = false := beq_eq_false_iff_ne.mpr c34
                                        have c34b1 : (a0 != 30) = true := bne_iff_ne.mpr c34
                                        obtain rfl := Option.some.inj H
                                        go_wp2
                                        go_ret
                                        exact ⟨by first | rfl | (simp; done) | (simp [*]; done), by repeat (first | exact Drawn0.refl _ | apply Drawn0.step)⟩

/-! ### code_within: function 55 -/
def code_within.f (a0 : Int) (a1 : Int) (a2 : Int) : Option (Bool) := if a0 ≥ a1 then (some (decide (a0 ≤ a2))) else (some false)
set_option maxHeartbeats 8000000 in
set_option maxRecDepth 100000 in
theorem code_within.calls (a0 : Int) (a1 : Int) (a2 : Int) (r : Bool) (w : World) (h : code_within.f a0 a1 a2 = some r) :
    Calls Try.prog 55 #[.int .i64 a0, .int .i64 a1, .int .i64 a2] w fun e w' => e = .returned (.bool r) ∧ Drawn0 w w' := by
  have H : (if a0 ≥ a1 then (some (decide (a0 ≤ a2))) else (some false)) = some r := h
  clear h
  by_cases c4 : a0 ≥ a1
  · rw [if_pos c4] at H
    have c4b0 : decide (a1 ≤ a0) = true := decide_eq_true c4
    clear c4
    obtain rfl := Option.some.inj H
    go_enter Try.func55, Try.ntmps55
    go_wp2
    go_ret
    exact ⟨by first | rfl | (simp; done) | (simp [*]; done), by repeat (first | exact Drawn0.refl _ | apply Drawn0.step)⟩
  · rw [if_neg c4] at H
    have c4b0 : decide (a1 ≤ a0) = false := decide_eq_false c4
    clear c4
    obtain rfl := Option.some.inj H
    go_enter Try.func55, Try.ntmps55
    go_wp2
    go_ret
    exact ⟨by first | rfl | (simp; done) | (simp [*]; done), by repeat (first | exact Drawn0.refl _ | apply Drawn0.step)⟩

end Go.Proofs.Ytmjafkhkoifopaa.PCodeDecodes
