/- What is encoded is decoded as it was, and the other way round: CodeBack returns true, and leaves what it was given as it was; whatever the image and the bytes. -/
import Derived.Test.YtmjafkhkoifopaaF7
import Derived.Test.YtmjafkhkoifopaaM7
import Derived.Test.YtmjafkhkoifopaaRows
import Derived.Test.YtmjafkhkoifopaaWSized
import Derived.Below
import Derived.ChangeOld
import Derived.OpenShut
import Derived.ProofKit
import Derived.ShutString
import Derived.SizedLaws
import Derived.WalkKit
/- CodeBack: its walk. -/
namespace Go.Proofs.Ytmjafkhkoifopaa.C16
open Go.RowKit Go.Proofs.YtmjafkhkoifopaaW.PrintWords Go.Proofs.YtmjafkhkoifopaaW.PrintLast Go.Proofs.YtmjafkhkoifopaaW.PrintMore Go.Proofs.Ytmjafkhkoifopaa.PCodeDecodes
set_option linter.unusedVariables false
set_option linter.unusedSimpArgs false
theorem sized_of {cs : List S43} (h : Small cs) : Sized cs := fun c hc => by have := h c hc; omega
/-- What Decode tells of these bytes, and nothing else. -/
theorem dec_tells (bs : List Int) : ∃ i err, Dec bs i err ∧ ∀ i' err', Dec bs i' err' → i' = i ∧ err' = err := by
  by_cases hl : 65536 < bs.length
  · refine ⟨⟨[], [], []⟩, 3, .inl ⟨hl, rfl, rfl⟩, fun i' err' h => ?_⟩
    rcases h with ⟨_, h1, h2⟩ | ⟨h1, _⟩ | ⟨h1, _⟩ | ⟨_, h1, _⟩
    · exact ⟨h1, h2⟩
    all_goals omega
  · cases hp : pImage bs with
    | none =>
      refine ⟨⟨[], [], []⟩, 30, .inr (.inl ⟨by omega, hp, rfl, rfl⟩), fun i' err' h => ?_⟩
      rcases h with ⟨h1, _⟩ | ⟨_, _, h1, h2⟩ | ⟨_, h1, _⟩ | ⟨_, _, h1, _⟩
      · omega
      · exact ⟨h1, h2⟩
      · rw [hp] at h1; cases h1
      · rw [hp] at h1; cases h1
    | some j =>
      by_cases hm : MayOk j.es j.ts j.cs
      · refine ⟨j, 0, .inr (.inr (.inl ⟨by omega, hp, hm, rfl⟩)), fun i' err' h => ?_⟩
        rcases h with ⟨h1, _⟩ | ⟨_, h1, _⟩ | ⟨_, h1, _, h2⟩ | ⟨j', _, h1, h2, _⟩
        · omega
        · rw [hp] at h1; cases h1
        · rw [hp] at h1; cases h1; exact ⟨rfl, h2⟩
        · rw [hp] at h1; cases h1; exact absurd hm h2
      · refine ⟨⟨[], [], []⟩, 30, .inr (.inr (.inr ⟨j, by omega, hp, hm, rfl, rfl⟩)), fun i' err' h => ?_⟩
        rcases h with ⟨h1, _⟩ | ⟨_, h1, _⟩ | ⟨_, h1, h2, _⟩ | ⟨j', _, _, _, h1, h2⟩
        · omega
        · rw [hp] at h1; cases h1
        · rw [hp] at h1; cases h1; exact absurd h2 hm
        · exact ⟨h1, h2⟩
theorem decode_at {bs : List Int} {i : Im} {err : Int} (hU : ∀ i' err', Dec bs i' err' → i' = i ∧ err' = err) {A : Option Addr} {c : Nat} {w : World} (h : Came w A c bs) :
    Calls Try.prog 15 #[.slice A bs.length c] w fun e w' => ∃ A0 c0 A1 c1 A2 c2, e = .returned (.tuple #[.agg #[.slice A0 i.es.length c0, .slice A1 i.ts.length c1, .slice A2 i.cs.length c2], .int .i64 err]) ∧ ImgAt w' A0 c0 A1 c1 A2 c2 i.es i.ts i.cs ∧ Below w.heap.size w w' := by
  refine (decode_is A c bs w h).mono fun e w' hd => ?_
  obtain ⟨i', err', vE, vT, vC, hD, rfl, oE, oT, oC, hb⟩ := hd
  obtain ⟨rfl, rfl⟩ := hU _ _ hD
  obtain ⟨A0, c0, A1, c1, A2, c2, rfl, rfl, rfl, hi⟩ := dec_img (bs := []) oE oT oC
  exact ⟨A0, c0, A1, c1, A2, c2, rfl, hi, hb⟩
theorem dec_zero {bs : List Int} {i : Im} (hb : Bytes bs) (h : Dec bs i 0) : MayOk i.es i.ts i.cs ∧ Small i.cs ∧ (∀ l' err', Enc i.es i.ts i.cs l' err' → l' = bs ∧ err' = 0) := by
  rcases h with ⟨_, _, h⟩ | ⟨_, _, _, h⟩ | ⟨h1, h2, h3, _⟩ | ⟨_, _, _, _, _, h⟩
  · cases h
  · cases h
  · have he := pImage_inv hb h2 h3
    refine ⟨h3, (pImage_all h1 h2).1, fun l' err' hE => ?_⟩
    rcases hE with ⟨g, _⟩ | ⟨_, g, _⟩ | ⟨_, _, g1, g2⟩
    · exact absurd h3 g
    · rw [he] at g; omega
    · exact ⟨g1.trans he, g2⟩
  · cases h
theorem dec_err {bs : List Int} {i : Im} {err : Int} (h : Dec bs i err) (h0 : ¬ err = 0) : i = ⟨[], [], []⟩ := by
  rcases h with ⟨_, h, _⟩ | ⟨_, _, h, _⟩ | ⟨_, _, _, h⟩ | ⟨_, _, _, _, h, _⟩
  · exact h
  · exact h
  · exact absurd h h0
  · exact h
set_option maxRecDepth 100000 in
set_option maxHeartbeats 8000000 in
theorem back_calls (A0 : Option Addr) (c0 : Nat) (A1 : Option Addr) (c1 : Nat) (A2 : Option Addr) (c2 : Nat) (es : List S45) (ts : List ByteArray) (cs : List S43) (A : Option Addr) (c : Nat) (bs : List Int) (w : World)
    (hI : ImgAt w A0 c0 A1 c1 A2 c2 es ts cs) (hM : Came w A c bs) (hr : Ranged cs) : Calls Try.prog 6 #[imgV A0 c0 A1 c1 A2 c2 es ts cs, .slice A bs.length c] w fun e w' => e = .returned (.bool true) ∧ Below w.heap.size w w' := by
  have HT := Aside0.mk (One.start hI hM)
  have HBB := Aside0.mk hM.1
  obtain ⟨b1, hs1, hL1⟩ := large_is A0 c0 A1 c1 A2 c2 es ts cs
  obtain ⟨l1, e1, hE1, hU1⟩ := enc_tells es ts cs
  obtain ⟨i2, r2, hD2, hU2⟩ := dec_tells bs
  have HL1 := Aside0.mk hL1
  have HU1 := Aside0.mk hU1
  have HE1 := Aside0.mk hE1
  have HU2 := Aside0.mk hU2
  have HD2 := Aside0.mk hD2
  have HR1 := Aside0.mk hr
  clear hI hM hL1 hU1 hE1 hr hU2 hD2
  cases b1 with
  | true =>
    clear hs1
    go_enter Try.func6, Try.ntmps6
    go_wp2_with (first
      | (go_at_call 9; refine (awake_calls _).mono ?_; rintro e w1 ⟨rfl, hb⟩; have HT1 := Aside0.mk (HT.out.below hb); clear hb HT; obtain ⟨k1, k2⟩ := HT1.out.cells)
      | (go_at_call 10; refine (HL1.out _ HT1.out.hi).mono ?_; rintro e w2 ⟨rfl, hb⟩; have HT2 := Aside0.mk (HT1.out.below hb); clear hb HT1 HL1 k1 k2; obtain ⟨k1, k2⟩ := HT2.out.cells))
    go_ret
    exact ⟨rfl, HT2.out.bel⟩
  | false =>
    have HS1 := Aside0.mk (hs1 rfl)
    clear hs1
    by_cases z1 : e1 = 0
    · subst z1
      have HM1 := Aside0.mk (enc_zero HE1.out).1
      have HN1 := Aside0.mk (enc_zero HE1.out).2.1
      have HL1E := Aside0.mk (enc_zero HE1.out).2.2
      have hl65 : ¬ (65536 : Int) < l1.length := by have := HN1.out; rw [← HL1E.out] at this; omega
      by_cases z2 : r2 = 0
      · subst z2
        obtain ⟨m2, s2, u3⟩ := dec_zero HBB.out HD2.out
        have HM2 := Aside0.mk m2
        have HS2 := Aside0.mk s2
        have HU3 := Aside0.mk u3
        clear m2 s2 u3
        go_enter Try.func6, Try.ntmps6
        go_wp2_with (first
          | (go_at_call 9; refine (awake_calls _).mono ?_; rintro e w1 ⟨rfl, hb⟩; have HT1 := Aside0.mk (HT.out.below hb); clear hb HT; obtain ⟨k1, k2⟩ := HT1.out.cells)
          | (go_at_call 10; refine (HL1.out _ HT1.out.hi).mono ?_; rintro e w2 ⟨rfl, hb⟩; have HT2 := Aside0.mk (HT1.out.below hb); clear hb HT1 HL1 k1 k2; obtain ⟨k1, k2⟩ := HT2.out.cells)
          | (go_at_call 13; refine (encode_at HU1.out HT2.out.hi HS1.out).mono ?_; rintro e w4 ⟨P1, q1, rfl, hC, hb⟩; have HT4 := Aside0.mk (HT2.out.below hb); have HC4 := Aside0.mk hC; clear hb hC HT2 k1 k2; obtain ⟨k1, k2⟩ := HT4.out.cells)
          | (go_at_call 15; refine (decode_is P1 q1 l1 w4 HC4.out).mono ?_; rintro e w5 h5; rw [HL1E.out] at h5; obtain ⟨D0, d0, D1, d1, D2, d2, rfl, hJ, hb⟩ := dec_ok h5 HM1.out HS1.out HR1.out HN1.out; have hb' := below_alloc hb (.cells #[.slice D0 es.length d0, .slice D1 ts.length d1, .slice D2 cs.length d2] 26); have HT5 := Aside0.mk (HT4.out.below hb'); have HJ5 := Aside0.mk (hJ.below (below_alloc (Below.refl _ _) (.cells #[.slice D0 es.length d0, .slice D1 ts.length d1, .slice D2 cs.length d2] 26))); have HV5 := Aside0.mk (blk_new w5 (.cells #[.slice D0 es.length d0, .slice D1 ts.length d1, .slice D2 cs.length d2] 26)); clear h5 hJ hb hb' HT4 HC4 k1 k2; obtain ⟨k1, k2⟩ := HT5.out.cells; have k3 := fun j => blk_cell HV5.out j; have k4 := fun j => blk_frozen HV5.out j)
          | (go_at_call 17; refine (same_any A0 c0 A1 c1 A2 c2 es ts cs D0 d0 D1 d1 D2 d2 es ts cs _ HT5.out.hi HJ5.out HS1.out).mono ?_; rintro e w6 ⟨hs, hb⟩; obtain rfl := hs.is (b := true) ⟨fun _ => ⟨rfl, rfl, rfl⟩, fun _ => rfl⟩; have HT6 := Aside0.mk (HT5.out.below hb); clear hs hb HT5 HJ5 HV5 k1 k2 k3 k4; obtain ⟨k1, k2⟩ := HT6.out.cells)
          | (go_at_call 11; refine (may_calls A0 c0 A1 c1 A2 c2 es ts cs w6 HT6.out.hi (sized_of HS1.out)).mono ?_; rintro e w7 ⟨hs, hb⟩; obtain rfl := hs.is (b := true) ⟨fun _ => HM1.out, fun _ => rfl⟩; have HT7 := Aside0.mk (HT6.out.below hb); clear hs hb HT6 k1 k2; obtain ⟨k1, k2⟩ := HT7.out.cells)
          | (go_at_call 15; refine (decode_at HU2.out HT7.out.hm).mono ?_; rintro e w8 ⟨E0, e0, E1, e1_, E2, e2_, rfl, hJ, hb⟩; have hb' := below_alloc hb (.cells #[.slice E0 i2.es.length e0, .slice E1 i2.ts.length e1_, .slice E2 i2.cs.length e2_] 26); have HT8 := Aside0.mk (HT7.out.below hb'); have HJ8 := Aside0.mk (hJ.below (below_alloc (Below.refl _ _) (.cells #[.slice E0 i2.es.length e0, .slice E1 i2.ts.length e1_, .slice E2 i2.cs.length e2_] 26))); have HV8 := Aside0.mk (blk_new w8 (.cells #[.slice E0 i2.es.length e0, .slice E1 i2.ts.length e1_, .slice E2 i2.cs.length e2_] 26)); clear hJ hb hb' HT7 k1 k2; have k3 := fun j => blk_cell HV8.out j; have k4 := fun j => blk_frozen HV8.out j)
          | (go_at_call 13; refine (encode_at HU3.out HJ8.out HS2.out).mono ?_; rintro e w9 ⟨P2, q2, rfl, hC, hb⟩; have HT9 := Aside0.mk (HT8.out.below hb); have HJ9 := Aside0.mk (HJ8.out.below hb); have HV9 := Aside0.mk (blk_below HV8.out hb); have x1 := Kd.C_string Try.underlying29 Try.underlying5 Try.underlying9 hC.2.2 (c := q2); have x2 := Kd.C_string Try.underlying29 Try.underlying5 Try.underlying9 (HT8.out.below hb).hm.2.2 (c := c); clear hC hb HT8 HJ8 HV8 k3 k4; have k3 := fun j => blk_cell HV9.out j; have k4 := fun j => blk_frozen HV9.out j)
          | (go_at_call 11; refine (may_calls _ _ _ _ _ _ i2.es i2.ts i2.cs w9 HJ9.out (sized_of HS2.out)).mono ?_; rintro e w10 ⟨hs, hb⟩; obtain rfl := hs.is (b := true) ⟨fun _ => HM2.out, fun _ => rfl⟩; have HT10 := Aside0.mk (HT9.out.below hb); clear hs hb))
        go_ret
        exact ⟨rfl, HT10.out.bel⟩
      · have z2' : (r2 != 0) = true := by simpa using z2
        have z2'' : (r2 == 0) = false := by rw [beq_eq_false_iff_ne]; exact z2
        obtain rfl := dec_err HD2.out z2
        clear z2
        go_enter Try.func6, Try.ntmps6
        go_wp2_with (first
          | (go_at_call 9; refine (awake_calls _).mono ?_; rintro e w1 ⟨rfl, hb⟩; have HT1 := Aside0.mk (HT.out.below hb); clear hb HT; obtain ⟨k1, k2⟩ := HT1.out.cells)
          | (go_at_call 10; refine (HL1.out _ HT1.out.hi).mono ?_; rintro e w2 ⟨rfl, hb⟩; have HT2 := Aside0.mk (HT1.out.below hb); clear hb HT1 HL1 k1 k2; obtain ⟨k1, k2⟩ := HT2.out.cells)
          | (go_at_call 13; refine (encode_at HU1.out HT2.out.hi HS1.out).mono ?_; rintro e w4 ⟨P1, q1, rfl, hC, hb⟩; have HT4 := Aside0.mk (HT2.out.below hb); have HC4 := Aside0.mk hC; clear hb hC HT2 k1 k2; obtain ⟨k1, k2⟩ := HT4.out.cells)
          | (go_at_call 15; refine (decode_is P1 q1 l1 w4 HC4.out).mono ?_; rintro e w5 h5; rw [HL1E.out] at h5; obtain ⟨D0, d0, D1, d1, D2, d2, rfl, hJ, hb⟩ := dec_ok h5 HM1.out HS1.out HR1.out HN1.out; have hb' := below_alloc hb (.cells #[.slice D0 es.length d0, .slice D1 ts.length d1, .slice D2 cs.length d2] 26); have HT5 := Aside0.mk (HT4.out.below hb'); have HJ5 := Aside0.mk (hJ.below (below_alloc (Below.refl _ _) (.cells #[.slice D0 es.length d0, .slice D1 ts.length d1, .slice D2 cs.length d2] 26))); have HV5 := Aside0.mk (blk_new w5 (.cells #[.slice D0 es.length d0, .slice D1 ts.length d1, .slice D2 cs.length d2] 26)); clear h5 hJ hb hb' HT4 HC4 k1 k2; obtain ⟨k1, k2⟩ := HT5.out.cells; have k3 := fun j => blk_cell HV5.out j; have k4 := fun j => blk_frozen HV5.out j)
          | (go_at_call 17; refine (same_any A0 c0 A1 c1 A2 c2 es ts cs D0 d0 D1 d1 D2 d2 es ts cs _ HT5.out.hi HJ5.out HS1.out).mono ?_; rintro e w6 ⟨hs, hb⟩; obtain rfl := hs.is (b := true) ⟨fun _ => ⟨rfl, rfl, rfl⟩, fun _ => rfl⟩; have HT6 := Aside0.mk (HT5.out.below hb); clear hs hb HT5 HJ5 HV5 k1 k2 k3 k4; obtain ⟨k1, k2⟩ := HT6.out.cells)
          | (go_at_call 11; refine (may_calls A0 c0 A1 c1 A2 c2 es ts cs w6 HT6.out.hi (sized_of HS1.out)).mono ?_; rintro e w7 ⟨hs, hb⟩; obtain rfl := hs.is (b := true) ⟨fun _ => HM1.out, fun _ => rfl⟩; have HT7 := Aside0.mk (HT6.out.below hb); clear hs hb HT6 k1 k2; obtain ⟨k1, k2⟩ := HT7.out.cells)
          | (go_at_call 15; refine (decode_at HU2.out HT7.out.hm).mono ?_; rintro e w8 ⟨E0, e0, E1, e1_, E2, e2_, rfl, hJ, hb⟩; have hb' := below_alloc hb (.cells #[.slice E0 ([] : List S45).length e0, .slice E1 ([] : List ByteArray).length e1_, .slice E2 ([] : List S43).length e2_] 26); have HT8 := Aside0.mk (HT7.out.below hb'); have HJ8 := Aside0.mk (hJ.below (below_alloc (Below.refl _ _) (.cells #[.slice E0 ([] : List S45).length e0, .slice E1 ([] : List ByteArray).length e1_, .slice E2 ([] : List S43).length e2_] 26))); have HV8 := Aside0.mk (blk_new w8 (.cells #[.slice E0 ([] : List S45).length e0, .slice E1 ([] : List ByteArray).length e1_, .slice E2 ([] : List S43).length e2_] 26)); clear hJ hb hb' HT7 k1 k2; have k3 := fun j => blk_cell HV8.out j; have k4 := fun j => blk_frozen HV8.out j))
        go_ret
        exact ⟨rfl, HT8.out.bel⟩
    · have z1' : (e1 == 0) = false := by rw [beq_eq_false_iff_ne]; exact z1
      have z1'' : (e1 != 0) = true := by simpa using z1
      clear z1
      by_cases z2 : r2 = 0
      · subst z2
        obtain ⟨m2, s2, u3⟩ := dec_zero HBB.out HD2.out
        have HM2 := Aside0.mk m2
        have HS2 := Aside0.mk s2
        have HU3 := Aside0.mk u3
        clear m2 s2 u3
        go_enter Try.func6, Try.ntmps6
        go_wp2_with (first
          | (go_at_call 9; refine (awake_calls _).mono ?_; rintro e w1 ⟨rfl, hb⟩; have HT1 := Aside0.mk (HT.out.below hb); clear hb HT; obtain ⟨k1, k2⟩ := HT1.out.cells)
          | (go_at_call 10; refine (HL1.out _ HT1.out.hi).mono ?_; rintro e w2 ⟨rfl, hb⟩; have HT2 := Aside0.mk (HT1.out.below hb); clear hb HT1 HL1 k1 k2; obtain ⟨k1, k2⟩ := HT2.out.cells)
          | (go_at_call 13; refine (encode_at HU1.out HT2.out.hi HS1.out).mono ?_; rintro e w4 ⟨P1, q1, rfl, hC, hb⟩; have HT4 := Aside0.mk (HT2.out.below hb); have HC4 := Aside0.mk hC; clear hb hC HT2 k1 k2; obtain ⟨k1, k2⟩ := HT4.out.cells)
          | (go_at_call 15; refine (decode_at HU2.out HT4.out.hm).mono ?_; rintro e w8 ⟨E0, e0, E1, e1_, E2, e2_, rfl, hJ, hb⟩; have hb' := below_alloc hb (.cells #[.slice E0 i2.es.length e0, .slice E1 i2.ts.length e1_, .slice E2 i2.cs.length e2_] 26); have HT8 := Aside0.mk (HT4.out.below hb'); have HJ8 := Aside0.mk (hJ.below (below_alloc (Below.refl _ _) (.cells #[.slice E0 i2.es.length e0, .slice E1 i2.ts.length e1_, .slice E2 i2.cs.length e2_] 26))); have HV8 := Aside0.mk (blk_new w8 (.cells #[.slice E0 i2.es.length e0, .slice E1 i2.ts.length e1_, .slice E2 i2.cs.length e2_] 26)); clear hJ hb hb' HT4 k1 k2; have k3 := fun j => blk_cell HV8.out j; have k4 := fun j => blk_frozen HV8.out j)
          | (go_at_call 13; refine (encode_at HU3.out HJ8.out HS2.out).mono ?_; rintro e w9 ⟨P2, q2, rfl, hC, hb⟩; have HT9 := Aside0.mk (HT8.out.below hb); have HJ9 := Aside0.mk (HJ8.out.below hb); have HV9 := Aside0.mk (blk_below HV8.out hb); have x1 := Kd.C_string Try.underlying29 Try.underlying5 Try.underlying9 hC.2.2 (c := q2); have x2 := Kd.C_string Try.underlying29 Try.underlying5 Try.underlying9 (HT8.out.below hb).hm.2.2 (c := c); clear hC hb HT8 HJ8 HV8 k3 k4; have k3 := fun j => blk_cell HV9.out j; have k4 := fun j => blk_frozen HV9.out j)
          | (go_at_call 11; refine (may_calls _ _ _ _ _ _ i2.es i2.ts i2.cs w9 HJ9.out (sized_of HS2.out)).mono ?_; rintro e w10 ⟨hs, hb⟩; obtain rfl := hs.is (b := true) ⟨fun _ => HM2.out, fun _ => rfl⟩; have HT10 := Aside0.mk (HT9.out.below hb); clear hs hb))
        go_ret
        exact ⟨rfl, HT10.out.bel⟩
      · have z2' : (r2 != 0) = true := by simpa using z2
        have z2'' : (r2 == 0) = false := by rw [beq_eq_false_iff_ne]; exact z2
        obtain rfl := dec_err HD2.out z2
        clear z2
        go_enter Try.func6, Try.ntmps6
        go_wp2_with (first
          | (go_at_call 9; refine (awake_calls _).mono ?_; rintro e w1 ⟨rfl, hb⟩; have HT1 := Aside0.mk (HT.out.below hb); clear hb HT; obtain ⟨k1, k2⟩ := HT1.out.cells)
          | (go_at_call 10; refine (HL1.out _ HT1.out.hi).mono ?_; rintro e w2 ⟨rfl, hb⟩; have HT2 := Aside0.mk (HT1.out.below hb); clear hb HT1 HL1 k1 k2; obtain ⟨k1, k2⟩ := HT2.out.cells)
          | (go_at_call 13; refine (encode_at HU1.out HT2.out.hi HS1.out).mono ?_; rintro e w4 ⟨P1, q1, rfl, hC, hb⟩; have HT4 := Aside0.mk (HT2.out.below hb); have HC4 := Aside0.mk hC; clear hb hC HT2 k1 k2; obtain ⟨k1, k2⟩ := HT4.out.cells)
          | (go_at_call 15; refine (decode_at HU2.out HT4.out.hm).mono ?_; rintro e w8 ⟨E0, e0, E1, e1_, E2, e2_, rfl, hJ, hb⟩; have hb' := below_alloc hb (.cells #[.slice E0 ([] : List S45).length e0, .slice E1 ([] : List ByteArray).length e1_, .slice E2 ([] : List S43).length e2_] 26); have HT8 := Aside0.mk (HT4.out.below hb'); have HJ8 := Aside0.mk (hJ.below (below_alloc (Below.refl _ _) (.cells #[.slice E0 ([] : List S45).length e0, .slice E1 ([] : List ByteArray).length e1_, .slice E2 ([] : List S43).length e2_] 26))); have HV8 := Aside0.mk (blk_new w8 (.cells #[.slice E0 ([] : List S45).length e0, .slice E1 ([] : List ByteArray).length e1_, .slice E2 ([] : List S43).length e2_] 26)); clear hJ hb hb' HT4 k1 k2; have k3 := fun j => blk_cell HV8.out j; have k4 := fun j => blk_frozen HV8.out j))
        go_ret
        exact ⟨rfl, HT8.out.bel⟩
end Go.Proofs.Ytmjafkhkoifopaa.C16
/- What is encoded is decoded as it was, and the other way round: CodeBack returns true whatever the image and the bytes, and leaves what it was given as it was. -/
namespace Go.Proofs.Ytmjafkhkoifopaa.codeBack
open Go.ChangeShapes Go.WideShapes Go.ChangeAt Go.RowKit Go.Proofs.Ytmjafkhkoifopaa.C16
open Go.ChangeMaps (open_string shut_string)
set_option linter.unusedVariables false
theorem own : ownKnob Try.prog.godebug = none := by kernel_rfl
theorem laidOut : laidOutB Try.prog = true := by kernel_rfl
set_option maxRecDepth 100000 in
theorem lifted (os : Os) (started : os.Started) (H : Type) (enc : TypeId × Value → H) :
    ReturnsInHanded {} Try.checked os 6 .any (Rows.codeBackSpec.pre6 enc Try.prog Try.f6 Rows.codeBackRow.domain false) (Rows.codeBackSpec.post enc Try.prog Try.f6 false true false false) := by
  refine returnsInHanded_of_change_sized (C := Try.checked) own started (by kernel_rfl) Try.func6
    (ChangeSpec.witness6 (enc := enc) (C := Try.checked) false ⟨#[], #[.agg #[.slice none 0 0, .slice none 0 0, .slice none 0 0], .slice none 0 0], []⟩ 8 (by kernel_rfl) (by kernel_rfl) (by kernel_rfl) (by kernel_rfl)) ?_
  intro W base args ds gs before hval0 hW hcnd hsz0 _
  have hval : ∀ (j : Nat) t v, Try.f6.params[j]? = some t → args[j]? = some v → Value.okWide Try.prog W .any base t v := hval0
  have hW' := hW
  obtain ⟨p, q, hA0, hV, rfl, hfz, hnd⟩ := hW
  have hA : DataW.TrodAll enc Try.prog W 0 (fun _ => true) true Try.f6.params.toList args.toList ds p := hA0
  rw [Try.params6] at hA hval
  obtain ⟨v0, vs0, d0, ds0, p0, q0, hargs, rfl, rfl, h0, r0⟩ := trodAll_cons hA
  obtain ⟨v1, vs1, d1, ds1, p1, q1, rfl, rfl, rfl, h1, r1⟩ := trodAll_cons r0
  obtain ⟨rfl, rfl, rfl⟩ := trodAll_nil r1
  obtain rfl : args = #[v0, v1] := by cases args; simp_all
  obtain ⟨rfl, rfl⟩ := trodVars_none hV
  have k0 := h0
  have lt0 : ∀ x ∈ p0, x.block < W.heap.size := by obtain ⟨m, hm⟩ := k0; exact DataW.trod_lt m _ _ _ hm
  obtain ⟨A00, c00, A01, c01, A02, c02, es0, ts0, cs0, rfl, hi0, hr0⟩ := arg_image (hval 0 26 v0 rfl rfl) h0
  have k1 := h1
  have lt1 : ∀ x ∈ p1, x.block < W.heap.size := by obtain ⟨m, hm⟩ := k1; exact DataW.trod_lt m _ _ _ hm
  obtain ⟨A1, c1, bs1, rfl, hc1⟩ := arg_bytes (hval 1 29 v1 rfl rfl) h1
  clear hA0 hval0 hsz0
  refine (back_calls _ _ _ _ _ _ _ _ _ _ _ _ W hi0 hc1 hr0).mono fun e W' ⟨he, bel⟩ => ?_
  subst he
  exact ⟨_, rfl, _, _, _, [], _, [], hW', trodAll_mk1 (shut_bool Try.underlying4 _), (trodAll_cons_mk (Below.trod laidOut (by kernel_rfl) (of_decide_eq_true (by kernel_rfl)) k0 bel lt0) (trodAll_cons_mk (Below.trod laidOut (by kernel_rfl) (of_decide_eq_true (by kernel_rfl)) k1 bel lt1) trodAll_mk0)), rfl, bel.frame _, fun h => by cases h⟩
theorem over : Rows.codeBackRow.holds Try.pinned (OpenSpec.ofChange Rows.codeBackSpec) :=
  OpenClaim.holds_of_wide 6 Try.f6 rfl rfl rfl rfl rfl rfl rfl ⟨rfl, rfl, rfl, rfl, rfl⟩ rfl rfl rfl rfl rfl (by kernel_rfl) Try.func6 (by kernel_rfl)
    (of_decide_eq_true (by kernel_rfl)) (by unfold Func.isWrapper; first | (rw [if_pos (by decide +kernel)]; kernel_rfl) | (rw [if_neg (by decide +kernel)]; exact ⟨rfl, rfl⟩))
    (fun os started H enc _ => lifted os started H enc)
theorem proved : Rows.CodeBackSaid := over
#print axioms proved
end Go.Proofs.Ytmjafkhkoifopaa.codeBack
namespace Go.Proofs.Ytmjafkhkoifopaa
/-- The row, under a short name, for the claim. -/
theorem codeBack_holds : Rows.CodeBackSaid := codeBack.proved
#print axioms codeBack_holds
end Go.Proofs.Ytmjafkhkoifopaa
