import Derived.Test.YtmjafkhkoifopaaVN3
section
/- The reference: may an instruction be? Its walk. -/
namespace Go.Proofs.Ytmjafkhkoifopaa.C16
open Go.RowKit Go.Proofs.YtmjafkhkoifopaaW.PrintWords Go.Proofs.YtmjafkhkoifopaaW.PrintLast Go.Proofs.YtmjafkhkoifopaaW.PrintMore Go.Proofs.Ytmjafkhkoifopaa.PCodeDecodes
set_option linter.unusedVariables false
set_option linter.unusedSimpArgs false
set_option maxRecDepth 100000 in
set_option maxHeartbeats 4000000 in
theorem rins_o16 (A0 : Option Addr) (c0 : Nat) (A1 : Option Addr) (c1 : Nat) (A2 : Option Addr) (c2 : Nat) (es : List S45) (ts : List ByteArray) (cs : List S43) (at_ : Nat) (w : World) (hI : ImgAt w A0 c0 A1 c1 A2 c2 es ts cs) (hat : at_ < cs.length) (hz : Small cs) (ho : cs[at_].f0 = 16) :
    Calls Try.prog 24 #[imgV A0 c0 A1 c1 A2 c2 es ts cs, .int .i64 at_] w fun e w' => Says (rIns ts cs at_ cs[at_]) e ∧ Below w.heap.size w w' := by
  have hnl := hI.r1.2.1
  have hm := hI.r2.2.1
  obtain ⟨z3, z4, z5⟩ := hz cs[at_] (List.getElem_mem hat)
  have HI := Aside0.mk hI
  have hprev := Aside0.mk (fun h : at_ ≠ 0 => at_43 hI.r2 (at_ - 1) (by omega))
  obtain ⟨ad, A3, c3, A4, c4, A5, c5, rfl, q0, q1, q2, q3, q4, q5, HR⟩ := at_43b hI (Below.refl w.heap.size w) at_ hat
  clear hI hz
  generalize hcc : cs[at_] = c at *
  clear hcc
  obtain ⟨o, a, b, ns, tt, ll⟩ := c
  dsimp only at *
  replace q0 := cell_alloc q0
  replace q1 := cell_alloc q1
  replace q2 := cell_alloc q2
  replace q3 := cell_alloc q3
  replace q4 := cell_alloc q4
  replace q5 := cell_alloc q5
  have HT := Aside0.mk (TW.ins w #[.slice A0 es.length c0, .slice A1 ts.length c1, .slice (some ad) cs.length c2] #[.int .i64 o, .int .i64 a, .int .i64 b, .slice A3 ns.length c3, .slice A4 tt.length c4, .slice A5 ll.length c5])
  obtain ⟨⟨k1, k2⟩, k3, k4⟩ := HT.out.two2
  have hf : fieldsOf o = 17 := by rw [ho]; rfl
  obtain ⟨f, hff⟩ : ∃ f, fieldsOf o = f := ⟨_, rfl⟩
  have HF := Aside0.mk hff
  have hfs : f = 0 ∨ f = 1 ∨ f = 3 ∨ f = 8 ∨ f = 9 ∨ f = 17 ∨ f = 20 := by omega
  have HFS := Aside0.mk hfs
  have hq63 : ((shapeOf f).toList == [63]) = false := shape_ne hfs
  have HT84 := Aside0.mk (show grapnelref16_has.f 4 (shapeOf f) 84 = some false by rw [has_T f hfs, show (f == 20) = false from by first | (rw [beq_eq_false_iff_ne]; omega) | (rw [beq_iff_eq]; omega)])
  have HT49 := Aside0.mk (show grapnelref16_has.f 4 (shapeOf f) 49 = some false by rw [has_1 f hfs, show (f == 8 || f == 9) = false from by first | (rw [Bool.or_eq_false_iff, beq_eq_false_iff_ne, beq_eq_false_iff_ne]; omega) | (rw [Bool.or_eq_true, beq_iff_eq, beq_iff_eq]; omega)])
  have t11 : (o == 11) = false := by rw [ho]; rfl
  have t17 : (o == 17) = false := by rw [ho]; rfl
  have t22 : (o == 22) = false := by rw [ho]; rfl
  have t16 : (o == 16) = true := by rw [ho]; rfl
  have t13 : (o == 13) = false := by rw [ho]; rfl
  have t13n : (o != 13) = !(o == 13) := rfl
  rw [t13] at t13n
  obtain ⟨lo, hlo⟩ : ∃ lo, loOf o = lo := ⟨_, rfl⟩
  obtain ⟨hi, hhi⟩ : ∃ hi, hiOf o ts.length = hi := ⟨_, rfl⟩
  have HBO := Aside0.mk (show grapnelref16_bounds.f 4 o (ts.length : Int) = some (lo, hi) by rw [bounds_f _ _ ⟨by omega, by omega⟩, hlo, hhi])
  have HLH := Aside0.mk (show (∀ B, numR ts.length o a B ↔ (lo ≤ a ∧ a ≤ hi ∧ ¬ (o = 22 ∧ 11 < a ∧ a < 31)) ∧ 0 ≤ B ∧ B ≤ mostOf o) from fun B => by unfold numR; rw [hlo, hhi])
  have HMO := Aside0.mk (show mostOf o = 0 by rw [ho]; rfl)
  have HO := Aside0.mk ho
  have HFF := Aside0.mk hf
  clear hff hlo hhi hfs hf ho
  by_cases n1 : a < lo
  case pos =>
    have n1' : decide (a < lo) = true := decide_eq_true n1
    have HNO := Aside0.mk (show ¬ rIns ts cs at_ ⟨o, a, b, ns, tt, ll⟩ from fun h => by have := ((HLH.out _).1 h.2.1).1.1; (try dsimp only at this); omega)
    go_enter Try.func24, Try.ntmps24
    go_wp2_with (first
      | (go_at_call 36; refine (shape_is o f HF.out _).mono ?_; rintro e w1 ⟨rfl, d1, hd1⟩; have HT1 := Aside0.mk (EN.at_ HT.out d1 hd1); clear HT hd1 k1 k2 k3 k4; obtain ⟨⟨k1, k2⟩, k3, k4⟩ := TW.two2 HT1.out)
      | (go_at_call 45; refine (grapnelref16_bounds.calls 4 o ts.length lo hi _ HBO.out).mono ?_; rintro e w2 ⟨rfl, d2, hd2⟩; have HT2 := Aside0.mk (EN.at_ HT1.out d2 hd2); clear HT1 hd2 k1 k2 k3 k4; obtain ⟨⟨k1, k2⟩, k3, k4⟩ := TW.two2 HT2.out))
    go_ret
    exact ⟨.no HNO.out, HT2.out.bel⟩
  have n1' : decide (a < lo) = false := decide_eq_false n1
  by_cases n2 : hi < a
  case pos =>
    have n2' : decide (hi < a) = true := decide_eq_true n2
    have HNO := Aside0.mk (show ¬ rIns ts cs at_ ⟨o, a, b, ns, tt, ll⟩ from fun h => by have := ((HLH.out _).1 h.2.1).1.2.1; omega)
    go_enter Try.func24, Try.ntmps24
    go_wp2_with (first
      | (go_at_call 36; refine (shape_is o f HF.out _).mono ?_; rintro e w1 ⟨rfl, d1, hd1⟩; have HT1 := Aside0.mk (EN.at_ HT.out d1 hd1); clear HT hd1 k1 k2 k3 k4; obtain ⟨⟨k1, k2⟩, k3, k4⟩ := TW.two2 HT1.out)
      | (go_at_call 45; refine (grapnelref16_bounds.calls 4 o ts.length lo hi _ HBO.out).mono ?_; rintro e w2 ⟨rfl, d2, hd2⟩; have HT2 := Aside0.mk (EN.at_ HT1.out d2 hd2); clear HT1 hd2 k1 k2 k3 k4; obtain ⟨⟨k1, k2⟩, k3, k4⟩ := TW.two2 HT2.out))
    go_ret
    exact ⟨.no HNO.out, HT2.out.bel⟩
  have n2' : decide (hi < a) = false := decide_eq_false n2
  by_cases n4 : b < 0
  case pos =>
    have n4' : decide (b < 0) = true := decide_eq_true n4
    have HNO := Aside0.mk (show ¬ rIns ts cs at_ ⟨o, a, b, ns, tt, ll⟩ from fun h => by have := ((HLH.out _).1 h.2.1).2; (try dsimp only at this); omega)
    go_enter Try.func24, Try.ntmps24
    go_wp2_with (first
      | (go_at_call 36; refine (shape_is o f HF.out _).mono ?_; rintro e w1 ⟨rfl, d1, hd1⟩; have HT1 := Aside0.mk (EN.at_ HT.out d1 hd1); clear HT hd1 k1 k2 k3 k4; obtain ⟨⟨k1, k2⟩, k3, k4⟩ := TW.two2 HT1.out)
      | (go_at_call 45; refine (grapnelref16_bounds.calls 4 o ts.length lo hi _ HBO.out).mono ?_; rintro e w2 ⟨rfl, d2, hd2⟩; have HT2 := Aside0.mk (EN.at_ HT1.out d2 hd2); clear HT1 hd2 k1 k2 k3 k4; obtain ⟨⟨k1, k2⟩, k3, k4⟩ := TW.two2 HT2.out))
    go_ret
    exact ⟨.no HNO.out, HT2.out.bel⟩
  have n4' : decide (b < 0) = false := decide_eq_false n4
  by_cases n5 : 0 < b
  case pos =>
    have n5' : decide (0 < b) = true := decide_eq_true n5
    have HNO := Aside0.mk (show ¬ rIns ts cs at_ ⟨o, a, b, ns, tt, ll⟩ from fun h => by have := ((HLH.out _).1 h.2.1).2; have h_ := HMO.out; (try dsimp only at this h_); omega)
    go_enter Try.func24, Try.ntmps24
    go_wp2_with (first
      | (go_at_call 36; refine (shape_is o f HF.out _).mono ?_; rintro e w1 ⟨rfl, d1, hd1⟩; have HT1 := Aside0.mk (EN.at_ HT.out d1 hd1); clear HT hd1 k1 k2 k3 k4; obtain ⟨⟨k1, k2⟩, k3, k4⟩ := TW.two2 HT1.out)
      | (go_at_call 45; refine (grapnelref16_bounds.calls 4 o ts.length lo hi _ HBO.out).mono ?_; rintro e w2 ⟨rfl, d2, hd2⟩; have HT2 := Aside0.mk (EN.at_ HT1.out d2 hd2); clear HT1 hd2 k1 k2 k3 k4; obtain ⟨⟨k1, k2⟩, k3, k4⟩ := TW.two2 HT2.out))
    go_ret
    exact ⟨.no HNO.out, HT2.out.bel⟩
  have n5' : decide (0 < b) = false := decide_eq_false n5
  have HNUM := Aside0.mk (show numR ts.length o a b from (HLH.out _).2 ⟨⟨by omega, by omega, fun h => absurd t22 (by rw [h.1]; decide)⟩, by omega, by have := HMO.out; omega⟩)
  by_cases n6 : 0 < ns.length
  case pos =>
    have HNO := Aside0.mk (show ¬ rIns ts cs at_ ⟨o, a, b, ns, tt, ll⟩ from fun h => by have h_ : ns = [] := (h.2.2.1 (show fieldsOf o ≠ 20 by have := HFF.out; omega)).1; rw [h_] at n6; simp at n6)
    go_enter Try.func24, Try.ntmps24
    go_wp2_with (first
      | (go_at_call 36; refine (shape_is o f HF.out _).mono ?_; rintro e w1 ⟨rfl, d1, hd1⟩; have HT1 := Aside0.mk (EN.at_ HT.out d1 hd1); clear HT hd1 k1 k2 k3 k4; obtain ⟨⟨k1, k2⟩, k3, k4⟩ := TW.two2 HT1.out)
      | (go_at_call 45; refine (grapnelref16_bounds.calls 4 o ts.length lo hi _ HBO.out).mono ?_; rintro e w2 ⟨rfl, d2, hd2⟩; have HT2 := Aside0.mk (EN.at_ HT1.out d2 hd2); clear HT1 hd2 k1 k2 k3 k4; obtain ⟨⟨k1, k2⟩, k3, k4⟩ := TW.two2 HT2.out)
      | (go_at_call 37; refine (has_is f 84 false HT84.out _).mono ?_; rintro e w3 ⟨rfl, d3, hd3⟩; have HT3 := Aside0.mk (EN.at_ HT2.out d3 hd3); clear HT2 hd3 k1 k2 k3 k4; obtain ⟨⟨k1, k2⟩, k3, k4⟩ := TW.two2 HT3.out))
    go_ret
    exact ⟨.no HNO.out, HT3.out.bel⟩
  by_cases n7 : 0 < tt.length
  case pos =>
    have HNO := Aside0.mk (show ¬ rIns ts cs at_ ⟨o, a, b, ns, tt, ll⟩ from fun h => by have h_ : tt = [] := (h.2.2.1 (show fieldsOf o ≠ 20 by have := HFF.out; omega)).2; rw [h_] at n7; simp at n7)
    go_enter Try.func24, Try.ntmps24
    go_wp2_with (first
      | (go_at_call 36; refine (shape_is o f HF.out _).mono ?_; rintro e w1 ⟨rfl, d1, hd1⟩; have HT1 := Aside0.mk (EN.at_ HT.out d1 hd1); clear HT hd1 k1 k2 k3 k4; obtain ⟨⟨k1, k2⟩, k3, k4⟩ := TW.two2 HT1.out)
      | (go_at_call 45; refine (grapnelref16_bounds.calls 4 o ts.length lo hi _ HBO.out).mono ?_; rintro e w2 ⟨rfl, d2, hd2⟩; have HT2 := Aside0.mk (EN.at_ HT1.out d2 hd2); clear HT1 hd2 k1 k2 k3 k4; obtain ⟨⟨k1, k2⟩, k3, k4⟩ := TW.two2 HT2.out)
      | (go_at_call 37; refine (has_is f 84 false HT84.out _).mono ?_; rintro e w3 ⟨rfl, d3, hd3⟩; have HT3 := Aside0.mk (EN.at_ HT2.out d3 hd3); clear HT2 hd3 k1 k2 k3 k4; obtain ⟨⟨k1, k2⟩, k3, k4⟩ := TW.two2 HT3.out))
    go_ret
    exact ⟨.no HNO.out, HT3.out.bel⟩
  obtain rfl : ns = [] := List.eq_nil_of_length_eq_zero (by omega)
  obtain rfl : tt = [] := List.eq_nil_of_length_eq_zero (by omega)
  clear n6 n7
  have HR3 := Aside0.mk (show risesB ([] : List Int) = true by decide)
  have HR4 := Aside0.mk (show risesB ([] : List Int) = true by decide)
  have HTT := Aside0.mk (show fieldsOf o ≠ 20 → (([] : List Int) : List Int) = [] ∧ (([] : List Int) : List Int) = [] from fun _ => ⟨rfl, rfl⟩)
  go_enter Try.func24, Try.ntmps24
  go_wp2_with (first
    | (go_at_call 36; refine (shape_is o f HF.out _).mono ?_; rintro e w1 ⟨rfl, d1, hd1⟩; have HT1 := Aside0.mk (EN.at_ HT.out d1 hd1); clear HT hd1 k1 k2 k3 k4; obtain ⟨⟨k1, k2⟩, k3, k4⟩ := TW.two2 HT1.out)
    | (go_at_call 45; refine (grapnelref16_bounds.calls 4 o ts.length lo hi _ HBO.out).mono ?_; rintro e w2 ⟨rfl, d2, hd2⟩; have HT2 := Aside0.mk (EN.at_ HT1.out d2 hd2); clear HT1 hd2 k1 k2 k3 k4; obtain ⟨⟨k1, k2⟩, k3, k4⟩ := TW.two2 HT2.out)
    | (go_at_call 37; refine (has_is f 84 false HT84.out _).mono ?_; rintro e w3 ⟨rfl, d3, hd3⟩; have HT3 := Aside0.mk (EN.at_ HT2.out d3 hd3); clear HT2 hd3 k1 k2 k3 k4; obtain ⟨⟨k1, k2⟩, k3, k4⟩ := TW.two2 HT3.out)
    | (go_at_call 46; refine (rrises_is A3 c3 ([] : List Int) true HR3.out _ (Kd.C_below HR.out.2.1 HT3.out.bel) HR.out.1 (by omega)).mono ?_; rintro e w4 ⟨rfl, dr4, hd4⟩; have HT4 := Aside0.mk (EN.at_ HT3.out dr4 hd4); clear HT3 hd4 k1 k2 k3 k4; obtain ⟨⟨k1, k2⟩, k3, k4⟩ := TW.two2 HT4.out)
    | (go_at_call 46; refine (rrises_is A4 c4 ([] : List Int) true HR4.out _ (Kd.C_below HR.out.2.2.2.1 HT4.out.bel) HR.out.2.2.1 (by omega)).mono ?_; rintro e w5 ⟨rfl, dr5, hd5⟩; have HT5 := Aside0.mk (EN.at_ HT4.out dr5 hd5); clear HT4 hd5 k1 k2 k3 k4; obtain ⟨⟨k1, k2⟩, k3, k4⟩ := TW.two2 HT5.out))
  go_loopw [10] (fun i wr => ∃ k : Nat, k ≤ ([] : List Int).length ∧ i = .int .i64 k ∧ Aside0 (∀ j (h : j < ([] : List Int).length), j < k → 0 ≤ ([] : List Int)[j] ∧ ([] : List Int)[j] ≤ 199) ∧ Aside0 (TW w wr [(w.heap.size + 1, #[.int .i64 o, .int .i64 a, .int .i64 b, .slice A3 ([] : List Int).length c3, .slice A4 ([] : List Int).length c4, .slice A5 ll.length c5], 43), (w.heap.size, #[.slice A0 es.length c0, .slice A1 ts.length c1, .slice (some ad) cs.length c2], 26)]))
    (fun i _ => ([] : List Int).length - (intOf i).toNat)
  case atStart => exact ⟨0, Nat.zero_le _, rfl, ⟨fun j h hj => absurd hj (by omega)⟩, HT5⟩
  case round =>
    clear HT5 k1 k2 k3 k4
    obtain ⟨k, hk, rfl, HE, HT6⟩ := hrel
    obtain ⟨⟨k1, k2⟩, k3, k4⟩ := HT6.out.two2
    by_cases hlt : k < ([] : List Int).length
    · exact absurd hlt (Nat.not_lt_zero _)
    · have HTS := Aside0.mk (el_all (P := fun x => 0 ≤ x ∧ x ≤ 199) HE.out hlt)
      clear HE
      by_cases m1 : ll.length < 1
      case pos =>
        have m1' : (ll.length : Int) < 1 := by omega
        have HNO := Aside0.mk (show ¬ rIns ts cs at_ ⟨o, a, b, ([] : List Int), ([] : List Int), ll⟩ from fun h => by have := h.2.2.2.2.2.1 HO.out; (try dsimp only at this); omega)
        go_wp2_with (first
          | (go_at_call 37; refine (has_is f 49 false HT49.out _).mono ?_; rintro e w7 ⟨rfl, d7, hd7⟩; have HT7 := Aside0.mk (EN.at_ HT6.out d7 hd7); clear HT6 HT49 hd7 k1 k2 k3 k4; obtain ⟨⟨k1, k2⟩, k3, k4⟩ := TW.two2 HT7.out)
          | (go_at_call 37; refine (has_is f 84 false HT84.out _).mono ?_; rintro e w8 ⟨rfl, d8, hd8⟩; have HT8 := Aside0.mk (EN.at_ HT7.out d8 hd8); clear HT7 hd8 k1 k2 k3 k4; obtain ⟨⟨k1, k2⟩, k3, k4⟩ := TW.two2 HT8.out))
        go_ret
        exact ⟨.no HNO.out, HT8.out.bel⟩
      have m1' : ¬ (ll.length : Int) < 1 := by omega
      by_cases m2 : 30 < ll.length
      case pos =>
        have m2' : (30 : Int) < ll.length := by omega
        have HNO := Aside0.mk (show ¬ rIns ts cs at_ ⟨o, a, b, ([] : List Int), ([] : List Int), ll⟩ from fun h => by have := h.2.2.2.2.2.1 HO.out; (try dsimp only at this); omega)
        go_wp2_with (first
          | (go_at_call 37; refine (has_is f 49 false HT49.out _).mono ?_; rintro e w7 ⟨rfl, d7, hd7⟩; have HT7 := Aside0.mk (EN.at_ HT6.out d7 hd7); clear HT6 HT49 hd7 k1 k2 k3 k4; obtain ⟨⟨k1, k2⟩, k3, k4⟩ := TW.two2 HT7.out)
          | (go_at_call 37; refine (has_is f 84 false HT84.out _).mono ?_; rintro e w8 ⟨rfl, d8, hd8⟩; have HT8 := Aside0.mk (EN.at_ HT7.out d8 hd8); clear HT7 hd8 k1 k2 k3 k4; obtain ⟨⟨k1, k2⟩, k3, k4⟩ := TW.two2 HT8.out))
        go_ret
        exact ⟨.no HNO.out, HT8.out.bel⟩
      have m2' : ¬ (30 : Int) < ll.length := by omega
      have HLEN := Aside0.mk (show lenR ⟨o, a, b, ([] : List Int), ([] : List Int), ll⟩ from ⟨fun h => by have := HFF.out; (try dsimp only at *); omega, fun h => by have := HFF.out; (try dsimp only at *); omega, fun h => by have := HO.out; (try dsimp only at *); omega⟩)
      have H16 := Aside0.mk (show o = 16 → 1 ≤ ll.length ∧ ll.length ≤ 30 from fun _ => ⟨by omega, by omega⟩)
      go_wp2_with (first
        | (go_at_call 37; refine (has_is f 49 false HT49.out _).mono ?_; rintro e w7 ⟨rfl, d7, hd7⟩; have HT7 := Aside0.mk (EN.at_ HT6.out d7 hd7); clear HT6 HT49 hd7 k1 k2 k3 k4; obtain ⟨⟨k1, k2⟩, k3, k4⟩ := TW.two2 HT7.out)
        | (go_at_call 37; refine (has_is f 84 false HT84.out _).mono ?_; rintro e w8 ⟨rfl, d8, hd8⟩; have HT8 := Aside0.mk (EN.at_ HT7.out d8 hd8); clear HT7 hd8 k1 k2 k3 k4; obtain ⟨⟨k1, k2⟩, k3, k4⟩ := TW.two2 HT8.out))
      go_loopw [12] (fun i wr => ∃ p : Nat, p ≤ ll.length ∧ i = .int .i64 p ∧ Aside0 (∀ j (h : j < ll.length), j < p → 0 ≤ ll[j] ∧ ll[j] < cs.length) ∧ Aside0 (TW w wr [(w.heap.size + 1, #[.int .i64 o, .int .i64 a, .int .i64 b, .slice A3 ([] : List Int).length c3, .slice A4 ([] : List Int).length c4, .slice A5 ll.length c5], 43), (w.heap.size, #[.slice A0 es.length c0, .slice A1 ts.length c1, .slice (some ad) cs.length c2], 26)]))
        (fun i _ => ll.length - (intOf i).toNat)
      case atStart => exact ⟨0, Nat.zero_le _, rfl, ⟨fun j h hj => absurd hj (by omega)⟩, HT8⟩
      case round =>
        clear HT8 k1 k2 k3 k4
        obtain ⟨p, hp, rfl, HE, HT9⟩ := hrel
        obtain ⟨⟨k1, k2⟩, k3, k4⟩ := HT9.out.two2
        by_cases hlt5 : p < ll.length
        · obtain ⟨ad5, rfl, hy⟩ := at_int_nat (Kd.C_below HR.out.2.2.2.2.2 HT9.out.bel) p hlt5
          have HX := Aside0.mk (el_step (P := fun x => 0 ≤ x ∧ x < (cs.length : Int)) HE.out hlt5)
          have HXN := Aside0.mk (fun (h : rIns ts cs at_ ⟨o, a, b, ([] : List Int), ([] : List Int), ll⟩) => h.2.2.2.2.2.2.2.1 _ (List.getElem_mem hlt5))
          obtain ⟨y, hyy⟩ : ∃ y, ll[p] = y := ⟨_, rfl⟩
          rw [hyy] at hy HX HXN
          clear hyy
          by_cases y0 : y < 0
          · have y0' : decide (y < 0) = true := decide_eq_true y0
            go_wp2
            go_quiet (fail)
            go_wp2
            go_ret
            exact ⟨.no fun h => by have := HXN.out h; omega, (HT9.out.drewN nq).bel⟩
          · have y0' : decide (y < 0) = false := decide_eq_false y0
            by_cases y1 : (cs.length : Int) ≤ y
            · have y1' : decide ((cs.length : Int) ≤ y) = true := decide_eq_true y1
              go_wp2
              go_quiet (fail)
              go_wp2
              go_ret
              exact ⟨.no fun h => by have := HXN.out h; omega, (HT9.out.drewN nq).bel⟩
            · have y1' : decide ((cs.length : Int) ≤ y) = false := decide_eq_false y1
              go_wp2
              go_quiet (fail)
              go_wp2
              go_roundw
              case rel => exact ⟨p + 1, by omega, by go_num, ⟨HX.out ⟨by omega, by omega⟩⟩, ⟨HT9.out.drewN nq⟩⟩
              case measure => simp [intOf]; omega
        · have HLS := Aside0.mk (el_all (P := fun x => 0 ≤ x ∧ x < (cs.length : Int)) HE.out hlt5)
          clear HE
          have HALL := Aside0.mk (show (o = 13 → at_ ≠ 0 ∧ (cs.getD (at_ - 1) z43).f0 = 12) → rIns ts cs at_ ⟨o, a, b, ([] : List Int), ([] : List Int), ll⟩ from fun h13 => ⟨by rw [HF.out]; have := HFS.out; omega, HNUM.out, (fun _ => ⟨rfl, rfl⟩), ⟨HR3.out, HR4.out⟩, HTS.out, H16.out, HLEN.out, HLS.out, h13⟩)
          go_wp2
          go_ret
          exact ⟨.yes (HALL.out fun h => absurd t13 (by rw [h]; decide)), HT9.out.bel⟩
end Go.Proofs.Ytmjafkhkoifopaa.C16
end
