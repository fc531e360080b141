/- Unlike images have unlike bytes: CodeApart returns true, and leaves what it was given as it was; whatever the two images. -/
import Derived.Test.YtmjafkhkoifopaaM7
import Derived.Test.YtmjafkhkoifopaaM8
import Derived.Test.YtmjafkhkoifopaaRows
import Derived.Test.YtmjafkhkoifopaaWSized
import Derived.Below
import Derived.ChangeOld
import Derived.OpenShut
import Derived.ProofKit
import Derived.ShutString
import Derived.SizedLaws
import Derived.WalkKit
/- CodeApart: its walk. -/
namespace Go.Proofs.Ytmjafkhkoifopaa.C16
open Go.RowKit Go.Proofs.YtmjafkhkoifopaaW.PrintWords Go.Proofs.YtmjafkhkoifopaaW.PrintLast Go.Proofs.YtmjafkhkoifopaaW.PrintMore Go.Proofs.Ytmjafkhkoifopaa.PCodeDecodes
set_option linter.unusedVariables false
set_option linter.unusedSimpArgs false
/-- Two images that came in, and their boxes. -/
structure Two (w wr : World) (A0 : Option Addr) (c0 : Nat) (A1 : Option Addr) (c1 : Nat) (A2 : Option Addr) (c2 : Nat) (es : List S45) (ts : List ByteArray) (cs : List S43)
    (B0 : Option Addr) (d0 : Nat) (B1 : Option Addr) (d1 : Nat) (B2 : Option Addr) (d2 : Nat) (es' : List S45) (ts' : List ByteArray) (cs' : List S43) : Prop where
  bel : Below w.heap.size w wr
  hi : ImgAt wr A0 c0 A1 c1 A2 c2 es ts cs
  hj : ImgAt wr B0 d0 B1 d1 B2 d2 es' ts' cs'
  bi : wr.heap[w.heap.size]? = some (.cells #[.slice A0 es.length c0, .slice A1 ts.length c1, .slice A2 cs.length c2] 26 (0, 0))
  bj : wr.heap[w.heap.size + 1]? = some (.cells #[.slice B0 es'.length d0, .slice B1 ts'.length d1, .slice B2 cs'.length d2] 26 (0, 0))
section
variable {w wr w1 : World} {A0 : Option Addr} {c0 : Nat} {A1 : Option Addr} {c1 : Nat} {A2 : Option Addr} {c2 : Nat} {es : List S45} {ts : List ByteArray} {cs : List S43} {B0 : Option Addr} {d0 : Nat} {B1 : Option Addr} {d1 : Nat} {B2 : Option Addr} {d2 : Nat} {es' : List S45} {ts' : List ByteArray} {cs' : List S43}
theorem Two.below (h : Two w wr A0 c0 A1 c1 A2 c2 es ts cs B0 d0 B1 d1 B2 d2 es' ts' cs') (hb : Below wr.heap.size wr w1) : Two w w1 A0 c0 A1 c1 A2 c2 es ts cs B0 d0 B1 d1 B2 d2 es' ts' cs' :=
  ⟨below_then h.bel h.bel.size hb, h.hi.below hb, h.hj.below hb, blk_below h.bi hb, blk_below h.bj hb⟩
theorem Two.drewN (h : Two w wr A0 c0 A1 c1 A2 c2 es ts cs B0 d0 B1 d1 B2 d2 es' ts' cs') (n : Nat) : Two w (wr.drewN n) A0 c0 A1 c1 A2 c2 es ts cs B0 d0 B1 d1 B2 d2 es' ts' cs' := h.below (pw_below_drewN (Below.refl _ _) n)
theorem Two.cells (h : Two w wr A0 c0 A1 c1 A2 c2 es ts cs B0 d0 B1 d1 B2 d2 es' ts' cs') :
    ((∀ j, wr.cell? ⟨w.heap.size, j, none⟩ = #[Value.slice A0 es.length c0, .slice A1 ts.length c1, .slice A2 cs.length c2][j]?) ∧ (∀ j, wr.frozen? ⟨w.heap.size, j, none⟩ = false)) ∧
    (∀ j, wr.cell? ⟨w.heap.size + 1, j, none⟩ = #[Value.slice B0 es'.length d0, .slice B1 ts'.length d1, .slice B2 cs'.length d2][j]?) ∧ (∀ j, wr.frozen? ⟨w.heap.size + 1, j, none⟩ = false) :=
  ⟨⟨fun j => blk_cell h.bi j, fun j => blk_frozen h.bi j⟩, fun j => blk_cell h.bj j, fun j => blk_frozen h.bj j⟩
theorem Two.start (hI : ImgAt w A0 c0 A1 c1 A2 c2 es ts cs) (hJ : ImgAt w B0 d0 B1 d1 B2 d2 es' ts' cs') :
    Two w ((w.alloc (.cells #[.slice A0 es.length c0, .slice A1 ts.length c1, .slice A2 cs.length c2] 26)).alloc (.cells #[.slice B0 es'.length d0, .slice B1 ts'.length d1, .slice B2 cs'.length d2] 26)) A0 c0 A1 c1 A2 c2 es ts cs B0 d0 B1 d1 B2 d2 es' ts' cs' := by
  have h2 := blk_new (w.alloc (.cells #[.slice A0 es.length c0, .slice A1 ts.length c1, .slice A2 cs.length c2] 26)) (.cells #[.slice B0 es'.length d0, .slice B1 ts'.length d1, .slice B2 cs'.length d2] 26)
  rw [World.size_alloc] at h2
  exact ⟨below2 _ _ _, hI.below (below2 _ _ _), hJ.below (below2 _ _ _), blk_alloc (blk_new _ _) _, h2⟩
end
/-- What Encode tells, in three arms. -/
theorem enc_arms {es : List S45} {ts : List ByteArray} {cs : List S43} {w w' : World} {e : Ending} (h : EncGives es ts cs w e w') :
    ∃ l A c err, e = .returned (.tuple #[.slice A l.length c, .int .i64 err]) ∧ Came w' A c l ∧ Below w.heap.size w w' ∧ Enc es ts cs l err := by
  obtain ⟨l, err, v, hE, rfl, ho, hb⟩ := h
  obtain ⟨A, c, rfl⟩ := Kd.R_slice ho
  obtain ⟨_, h1, h2⟩ := Kd.R_reads' ho
  refine ⟨l, A, c, err, rfl, ⟨?_, h1, h2⟩, hb, hE⟩
  rcases hE with ⟨_, rfl, _⟩ | ⟨_, _, rfl, _⟩ | ⟨_, _, rfl, _⟩
  · exact bytes_nil
  · exact bytes_nil
  · exact bytes_enc _ _ _
def encOf (es : List S45) (ts : List ByteArray) (cs : List S43) (l : List Int) (err : Int) : Prop := Enc es ts cs l err
theorem enc_tells (es : List S45) (ts : List ByteArray) (cs : List S43) : ∃ l err, Enc es ts cs l err ∧ ∀ l' err', Enc es ts cs l' err' → l' = l ∧ err' = err := by
  by_cases hm : MayOk es ts cs
  · by_cases hl : 65536 < (encImage es ts cs).length
    · refine ⟨[], 3, .inr (.inl ⟨hm, hl, rfl, rfl⟩), fun l' err' h => ?_⟩
      rcases h with ⟨h1, _⟩ | ⟨_, _, h1, h2⟩ | ⟨_, h1, _⟩
      · exact absurd hm h1
      · exact ⟨h1, h2⟩
      · omega
    · refine ⟨encImage es ts cs, 0, .inr (.inr ⟨hm, by omega, rfl, rfl⟩), fun l' err' h => ?_⟩
      rcases h with ⟨h1, _⟩ | ⟨_, h1, _⟩ | ⟨_, _, h1, h2⟩
      · exact absurd hm h1
      · omega
      · exact ⟨h1, h2⟩
  · refine ⟨[], 5, .inl ⟨hm, rfl, rfl⟩, fun l' err' h => ?_⟩
    rcases h with ⟨_, h1, h2⟩ | ⟨h1, _⟩ | ⟨h1, _⟩
    · exact ⟨h1, h2⟩
    · exact absurd h1 hm
    · exact absurd h1 hm
theorem encode_at {es : List S45} {ts : List ByteArray} {cs : List S43} {l : List Int} {err : Int} (hU : ∀ l' err', Enc es ts cs l' err' → l' = l ∧ err' = err) {A0 : Option Addr} {c0 : Nat} {A1 : Option Addr} {c1 : Nat} {A2 : Option Addr} {c2 : Nat} {w : World} (hI : ImgAt w A0 c0 A1 c1 A2 c2 es ts cs) (hz : Small cs) :
    Calls Try.prog 13 #[imgV A0 c0 A1 c1 A2 c2 es ts cs] w fun e w' => ∃ A c, e = .returned (.tuple #[.slice A l.length c, .int .i64 err]) ∧ Came w' A c l ∧ Below w.heap.size w w' := by
  refine (encode_is A0 c0 A1 c1 A2 c2 es ts cs w hI hz).mono fun e w' h => ?_
  obtain ⟨l', A, c, err', he, hc, hb, hE⟩ := enc_arms h
  obtain ⟨rfl, rfl⟩ := hU _ _ hE
  exact ⟨A, c, he, hc, hb⟩
theorem enc_zero {es : List S45} {ts : List ByteArray} {cs : List S43} {l : List Int} (h : Enc es ts cs l 0) : MayOk es ts cs ∧ (encImage es ts cs).length ≤ 65536 ∧ l = encImage es ts cs := by
  rcases h with ⟨_, _, h⟩ | ⟨_, _, _, h⟩ | ⟨h1, h2, h3, _⟩
  · cases h
  · cases h
  · exact ⟨h1, h2, h3⟩
theorem enc_same {es es' : List S45} {ts ts' : List ByteArray} {cs cs' : List S43} (m1 : MayOk es ts cs) (m2 : MayOk es' ts' cs') (s1 : Small cs) (s2 : Small cs') (r1 : Ranged cs) (r2 : Ranged cs') : encImage es ts cs = encImage es' ts' cs' ↔ SameSo es es' ts ts' cs cs' := by
  constructor
  · intro h
    have h1 := pImage_self m1 s1 r1
    have h2 := pImage_self m2 s2 r2
    rw [← h, h1] at h2
    cases h2
    exact ⟨rfl, rfl, rfl⟩
  · rintro ⟨rfl, rfl, rfl⟩
    rfl
set_option maxRecDepth 100000 in
set_option maxHeartbeats 8000000 in
theorem apart_calls (A0 : Option Addr) (c0 : Nat) (A1 : Option Addr) (c1 : Nat) (A2 : Option Addr) (c2 : Nat) (es : List S45) (ts : List ByteArray) (cs : List S43)
    (B0 : Option Addr) (d0 : Nat) (B1 : Option Addr) (d1 : Nat) (B2 : Option Addr) (d2 : Nat) (es' : List S45) (ts' : List ByteArray) (cs' : List S43) (w : World) (hI : ImgAt w A0 c0 A1 c1 A2 c2 es ts cs) (hJ : ImgAt w B0 d0 B1 d1 B2 d2 es' ts' cs')
    (hr : Ranged cs) (hr' : Ranged cs') : Calls Try.prog 8 #[imgV A0 c0 A1 c1 A2 c2 es ts cs, imgV B0 d0 B1 d1 B2 d2 es' ts' cs'] w fun e w' => e = .returned (.bool true) ∧ Below w.heap.size w w' := by
  have HT := Aside0.mk (Two.start hI hJ)
  obtain ⟨b1, hs1, hL1⟩ := large_is A0 c0 A1 c1 A2 c2 es ts cs
  obtain ⟨b2, hs2, hL2⟩ := large_is B0 d0 B1 d1 B2 d2 es' ts' cs'
  obtain ⟨l1, e1, hE1, hU1⟩ := enc_tells es ts cs
  obtain ⟨l2, e2, hE2, hU2⟩ := enc_tells es' ts' cs'
  have HL1 := Aside0.mk hL1
  have HL2 := Aside0.mk hL2
  have HU1 := Aside0.mk hU1
  have HU2 := Aside0.mk hU2
  have HE1 := Aside0.mk hE1
  have HE2 := Aside0.mk hE2
  have HR1 := Aside0.mk hr
  have HR2 := Aside0.mk hr'
  clear hI hJ hL1 hL2 hU1 hU2 hE1 hE2 hr hr'
  cases b1 with
  | true =>
    clear hs1 hs2
    go_enter Try.func8, Try.ntmps8
    go_wp2_with (first
      | (go_at_call 9; refine (awake_calls _).mono ?_; rintro e w1 ⟨rfl, hb⟩; have HT1 := Aside0.mk (HT.out.below hb); clear hb HT; obtain ⟨⟨k1, k2⟩, k3, k4⟩ := HT1.out.cells)
      | (go_at_call 10; refine (HL1.out _ HT1.out.hi).mono ?_; rintro e w2 ⟨rfl, hb⟩; have HT2 := Aside0.mk (HT1.out.below hb); clear hb HT1 HL1 k1 k2 k3 k4; obtain ⟨⟨k1, k2⟩, k3, k4⟩ := HT2.out.cells))
    go_ret
    exact ⟨rfl, HT2.out.bel⟩
  | false =>
    have HS1 := Aside0.mk (hs1 rfl)
    clear hs1
    cases b2 with
    | true =>
      clear hs2
      go_enter Try.func8, Try.ntmps8
      go_wp2_with (first
        | (go_at_call 9; refine (awake_calls _).mono ?_; rintro e w1 ⟨rfl, hb⟩; have HT1 := Aside0.mk (HT.out.below hb); clear hb HT; obtain ⟨⟨k1, k2⟩, k3, k4⟩ := HT1.out.cells)
        | (go_at_call 10; refine (HL1.out _ HT1.out.hi).mono ?_; rintro e w2 ⟨rfl, hb⟩; have HT2 := Aside0.mk (HT1.out.below hb); clear hb HT1 HL1 k1 k2 k3 k4; obtain ⟨⟨k1, k2⟩, k3, k4⟩ := HT2.out.cells)
        | (go_at_call 10; refine (HL2.out _ HT2.out.hj).mono ?_; rintro e w3 ⟨rfl, hb⟩; have HT3 := Aside0.mk (HT2.out.below hb); clear hb HT2 HL2 k1 k2 k3 k4; obtain ⟨⟨k1, k2⟩, k3, k4⟩ := HT3.out.cells))
      go_ret
      exact ⟨rfl, HT3.out.bel⟩
    | false =>
      have HS2 := Aside0.mk (hs2 rfl)
      clear hs2
      by_cases z1 : e1 = 0
      · by_cases z2 : e2 = 0
        · subst z1 z2
          obtain ⟨m1, n1, rfl⟩ := enc_zero HE1.out
          obtain ⟨m2, n2, rfl⟩ := enc_zero HE2.out
          have HM1 := Aside0.mk m1
          have HM2 := Aside0.mk m2
          clear m1 m2 n1 n2 HE1 HE2
          have HEQ : Aside0 (encImage es ts cs = encImage es' ts' cs' ↔ SameSo es es' ts ts' cs cs') := ⟨enc_same HM1.out HM2.out HS1.out HS2.out HR1.out HR2.out⟩
          have HBY1 := Aside0.mk (bytes_enc es ts cs)
          have HBY2 := Aside0.mk (bytes_enc es' ts' cs')
          generalize encImage es ts cs = l1 at *
          generalize encImage es' ts' cs' = l2 at *
          by_cases heq : l1 = l2
          · have HY := Aside0.mk (HEQ.out.1 heq)
            subst heq
            clear HEQ
            go_enter Try.func8, Try.ntmps8
            go_wp2_with (first
              | (go_at_call 9; refine (awake_calls _).mono ?_; rintro e w1 ⟨rfl, hb⟩; have HT1 := Aside0.mk (HT.out.below hb); clear hb HT; obtain ⟨⟨k1, k2⟩, k3, k4⟩ := HT1.out.cells)
              | (go_at_call 10; refine (HL1.out _ HT1.out.hi).mono ?_; rintro e w2 ⟨rfl, hb⟩; have HT2 := Aside0.mk (HT1.out.below hb); clear hb HT1 HL1 k1 k2 k3 k4; obtain ⟨⟨k1, k2⟩, k3, k4⟩ := HT2.out.cells)
              | (go_at_call 10; refine (HL2.out _ HT2.out.hj).mono ?_; rintro e w3 ⟨rfl, hb⟩; have HT3 := Aside0.mk (HT2.out.below hb); clear hb HT2 HL2 k1 k2 k3 k4; obtain ⟨⟨k1, k2⟩, k3, k4⟩ := HT3.out.cells)
              | (go_at_call 13; refine (encode_at HU1.out HT3.out.hi HS1.out).mono ?_; rintro e w4 ⟨P1, q1, rfl, hC, hb⟩; have HT4 := Aside0.mk (HT3.out.below hb); have HC1 := Aside0.mk hC; clear hb hC HT3 k1 k2 k3 k4; obtain ⟨⟨k1, k2⟩, k3, k4⟩ := HT4.out.cells)
              | (go_at_call 13; refine (encode_at HU2.out HT4.out.hj HS2.out).mono ?_; rintro e w5 ⟨P2, q2, rfl, hC, hb⟩; have HT5 := Aside0.mk (HT4.out.below hb); have HC1b := Aside0.mk (HC1.out.below hb); have HC2 := Aside0.mk hC; clear hb hC HT4 HC1 k1 k2 k3 k4; obtain ⟨⟨k1, k2⟩, k3, k4⟩ := HT5.out.cells))
            have x1 := Kd.C_string Try.underlying29 Try.underlying5 Try.underlying9 (Kd.C_drew HC1b.out.2.2) (c := q1)
            have x2 := Kd.C_string Try.underlying29 Try.underlying5 Try.underlying9 (Kd.C_drew HC2.out.2.2) (c := q2)
            go_region_law (refine goes_ (f := 17) Try.func17 (by kernel_rfl) rfl #[imgV A0 c0 A1 c1 A2 c2 es ts cs, imgV B0 d0 B1 d1 B2 d2 es' ts' cs'] (by rfl) rfl rfl (by simp [Act.eval, Act.put]) ?_; refine (same_any A0 c0 A1 c1 A2 c2 es ts cs B0 d0 B1 d1 B2 d2 es' ts' cs' _ (HT5.out.drewN 1).hi (HT5.out.drewN 1).hj HS1.out).mono ?_; rintro e w6 ⟨hs, hb⟩; obtain rfl := hs.is (b := true) ⟨fun _ => HY.out, fun _ => rfl⟩; refine ⟨_, rfl, ?_⟩; have HT6 := Aside0.mk ((HT5.out.drewN 1).below hb); have x3 := Kd.C_string Try.underlying29 Try.underlying5 Try.underlying9 (Kd.C_below (Kd.C_drew HC1b.out.2.2) hb) (c := q1); have x4 := Kd.C_string Try.underlying29 Try.underlying5 Try.underlying9 (Kd.C_below (Kd.C_drew HC2.out.2.2) hb) (c := q2); clear hs hb)
            all_goals
              go_wp2
              go_ret
              exact ⟨rfl, HT6.out.bel⟩
          · have HY := Aside0.mk (fun h => heq (HEQ.out.2 h))
            have hne : ((strOfNums l1).toList == (strOfNums l2).toList) = false := bytes_ne fun e => heq (by rw [← nums_back HBY1.out, ← nums_back HBY2.out, e])
            clear HEQ heq
            go_enter Try.func8, Try.ntmps8
            go_wp2_with (first
              | (go_at_call 9; refine (awake_calls _).mono ?_; rintro e w1 ⟨rfl, hb⟩; have HT1 := Aside0.mk (HT.out.below hb); clear hb HT; obtain ⟨⟨k1, k2⟩, k3, k4⟩ := HT1.out.cells)
              | (go_at_call 10; refine (HL1.out _ HT1.out.hi).mono ?_; rintro e w2 ⟨rfl, hb⟩; have HT2 := Aside0.mk (HT1.out.below hb); clear hb HT1 HL1 k1 k2 k3 k4; obtain ⟨⟨k1, k2⟩, k3, k4⟩ := HT2.out.cells)
              | (go_at_call 10; refine (HL2.out _ HT2.out.hj).mono ?_; rintro e w3 ⟨rfl, hb⟩; have HT3 := Aside0.mk (HT2.out.below hb); clear hb HT2 HL2 k1 k2 k3 k4; obtain ⟨⟨k1, k2⟩, k3, k4⟩ := HT3.out.cells)
              | (go_at_call 13; refine (encode_at HU1.out HT3.out.hi HS1.out).mono ?_; rintro e w4 ⟨P1, q1, rfl, hC, hb⟩; have HT4 := Aside0.mk (HT3.out.below hb); have HC1 := Aside0.mk hC; clear hb hC HT3 k1 k2 k3 k4; obtain ⟨⟨k1, k2⟩, k3, k4⟩ := HT4.out.cells)
              | (go_at_call 13; refine (encode_at HU2.out HT4.out.hj HS2.out).mono ?_; rintro e w5 ⟨P2, q2, rfl, hC, hb⟩; have HT5 := Aside0.mk (HT4.out.below hb); have HC1b := Aside0.mk (HC1.out.below hb); have HC2 := Aside0.mk hC; clear hb hC HT4 HC1 k1 k2 k3 k4; obtain ⟨⟨k1, k2⟩, k3, k4⟩ := HT5.out.cells))
            have x1 := Kd.C_string Try.underlying29 Try.underlying5 Try.underlying9 (Kd.C_drew HC1b.out.2.2) (c := q1)
            have x2 := Kd.C_string Try.underlying29 Try.underlying5 Try.underlying9 (Kd.C_drew HC2.out.2.2) (c := q2)
            go_region_law (refine goes_ (f := 17) Try.func17 (by kernel_rfl) rfl #[imgV A0 c0 A1 c1 A2 c2 es ts cs, imgV B0 d0 B1 d1 B2 d2 es' ts' cs'] (by rfl) rfl rfl (by simp [Act.eval, Act.put]) ?_; refine (same_any A0 c0 A1 c1 A2 c2 es ts cs B0 d0 B1 d1 B2 d2 es' ts' cs' _ (HT5.out.drewN 1).hi (HT5.out.drewN 1).hj HS1.out).mono ?_; rintro e w6 ⟨hs, hb⟩; obtain rfl := hs.is (b := false) ⟨fun e_ => absurd e_ (by simp), fun h_ => absurd h_ HY.out⟩; refine ⟨_, rfl, ?_⟩; have HT6 := Aside0.mk ((HT5.out.drewN 1).below hb); have x3 := Kd.C_string Try.underlying29 Try.underlying5 Try.underlying9 (Kd.C_below (Kd.C_drew HC1b.out.2.2) hb) (c := q1); have x4 := Kd.C_string Try.underlying29 Try.underlying5 Try.underlying9 (Kd.C_below (Kd.C_drew HC2.out.2.2) hb) (c := q2); clear hs hb)
            all_goals
              go_wp2
              go_ret
              exact ⟨rfl, HT6.out.bel⟩
        · have z2' : (e2 == 0) = false := by rw [beq_eq_false_iff_ne]; exact z2
          have z2'' : (e2 != 0) = true := by simpa using z2
          subst z1
          go_enter Try.func8, Try.ntmps8
          go_wp2_with (first
            | (go_at_call 9; refine (awake_calls _).mono ?_; rintro e w1 ⟨rfl, hb⟩; have HT1 := Aside0.mk (HT.out.below hb); clear hb HT; obtain ⟨⟨k1, k2⟩, k3, k4⟩ := HT1.out.cells)
            | (go_at_call 10; refine (HL1.out _ HT1.out.hi).mono ?_; rintro e w2 ⟨rfl, hb⟩; have HT2 := Aside0.mk (HT1.out.below hb); clear hb HT1 HL1 k1 k2 k3 k4; obtain ⟨⟨k1, k2⟩, k3, k4⟩ := HT2.out.cells)
            | (go_at_call 10; refine (HL2.out _ HT2.out.hj).mono ?_; rintro e w3 ⟨rfl, hb⟩; have HT3 := Aside0.mk (HT2.out.below hb); clear hb HT2 HL2 k1 k2 k3 k4; obtain ⟨⟨k1, k2⟩, k3, k4⟩ := HT3.out.cells)
            | (go_at_call 13; refine (encode_at HU1.out HT3.out.hi HS1.out).mono ?_; rintro e w4 ⟨P1, q1, rfl, hC, hb⟩; have HT4 := Aside0.mk (HT3.out.below hb); have HC1 := Aside0.mk hC; clear hb hC HT3 k1 k2 k3 k4; obtain ⟨⟨k1, k2⟩, k3, k4⟩ := HT4.out.cells)
            | (go_at_call 13; refine (encode_at HU2.out HT4.out.hj HS2.out).mono ?_; rintro e w5 ⟨P2, q2, rfl, hC, hb⟩; have HT5 := Aside0.mk (HT4.out.below hb); have HC1b := Aside0.mk (HC1.out.below hb); have HC2 := Aside0.mk hC; clear hb hC HT4 HC1 k1 k2 k3 k4; obtain ⟨⟨k1, k2⟩, k3, k4⟩ := HT5.out.cells))
          go_ret
          exact ⟨rfl, HT5.out.bel⟩
      · have z1' : (e1 == 0) = false := by rw [beq_eq_false_iff_ne]; exact z1
        have z1'' : (e1 != 0) = true := by simpa using z1
        go_enter Try.func8, Try.ntmps8
        go_wp2_with (first
          | (go_at_call 9; refine (awake_calls _).mono ?_; rintro e w1 ⟨rfl, hb⟩; have HT1 := Aside0.mk (HT.out.below hb); clear hb HT; obtain ⟨⟨k1, k2⟩, k3, k4⟩ := HT1.out.cells)
          | (go_at_call 10; refine (HL1.out _ HT1.out.hi).mono ?_; rintro e w2 ⟨rfl, hb⟩; have HT2 := Aside0.mk (HT1.out.below hb); clear hb HT1 HL1 k1 k2 k3 k4; obtain ⟨⟨k1, k2⟩, k3, k4⟩ := HT2.out.cells)
          | (go_at_call 10; refine (HL2.out _ HT2.out.hj).mono ?_; rintro e w3 ⟨rfl, hb⟩; have HT3 := Aside0.mk (HT2.out.below hb); clear hb HT2 HL2 k1 k2 k3 k4; obtain ⟨⟨k1, k2⟩, k3, k4⟩ := HT3.out.cells)
          | (go_at_call 13; refine (encode_at HU1.out HT3.out.hi HS1.out).mono ?_; rintro e w4 ⟨P1, q1, rfl, hC, hb⟩; have HT4 := Aside0.mk (HT3.out.below hb); have HC1 := Aside0.mk hC; clear hb hC HT3 k1 k2 k3 k4; obtain ⟨⟨k1, k2⟩, k3, k4⟩ := HT4.out.cells)
          | (go_at_call 13; refine (encode_at HU2.out HT4.out.hj HS2.out).mono ?_; rintro e w5 ⟨P2, q2, rfl, hC, hb⟩; have HT5 := Aside0.mk (HT4.out.below hb); have HC1b := Aside0.mk (HC1.out.below hb); have HC2 := Aside0.mk hC; clear hb hC HT4 HC1 k1 k2 k3 k4; obtain ⟨⟨k1, k2⟩, k3, k4⟩ := HT5.out.cells))
        go_ret
        exact ⟨rfl, HT5.out.bel⟩
end Go.Proofs.Ytmjafkhkoifopaa.C16
/- Unlike images have unlike bytes: CodeApart returns true whatever two images it is given, and leaves what it was given as it was. -/
namespace Go.Proofs.Ytmjafkhkoifopaa.codeApart
open Go.ChangeShapes Go.WideShapes Go.ChangeAt Go.RowKit Go.Proofs.Ytmjafkhkoifopaa.C16
open Go.ChangeMaps (open_string shut_string)
set_option linter.unusedVariables false
theorem own : ownKnob Try.prog.godebug = none := by kernel_rfl
theorem laidOut : laidOutB Try.prog = true := by kernel_rfl
set_option maxRecDepth 100000 in
theorem lifted (os : Os) (started : os.Started) (H : Type) (enc : TypeId × Value → H) :
    ReturnsInHanded {} Try.checked os 8 .any (Rows.codeApartSpec.pre6 enc Try.prog Try.f8 Rows.codeApartRow.domain false) (Rows.codeApartSpec.post enc Try.prog Try.f8 false true false false) := by
  refine returnsInHanded_of_change_sized (C := Try.checked) own started (by kernel_rfl) Try.func8
    (ChangeSpec.witness6 (enc := enc) (C := Try.checked) false ⟨#[], #[.agg #[.slice none 0 0, .slice none 0 0, .slice none 0 0], .agg #[.slice none 0 0, .slice none 0 0, .slice none 0 0]], []⟩ 8 (by kernel_rfl) (by kernel_rfl) (by kernel_rfl) (by kernel_rfl)) ?_
  intro W base args ds gs before hval0 hW hcnd hsz0 _
  have hval : ∀ (j : Nat) t v, Try.f8.params[j]? = some t → args[j]? = some v → Value.okWide Try.prog W .any base t v := hval0
  have hW' := hW
  obtain ⟨p, q, hA0, hV, rfl, hfz, hnd⟩ := hW
  have hA : DataW.TrodAll enc Try.prog W 0 (fun _ => true) true Try.f8.params.toList args.toList ds p := hA0
  rw [Try.params8] at hA hval
  obtain ⟨v0, vs0, d0, ds0, p0, q0, hargs, rfl, rfl, h0, r0⟩ := trodAll_cons hA
  obtain ⟨v1, vs1, d1, ds1, p1, q1, rfl, rfl, rfl, h1, r1⟩ := trodAll_cons r0
  obtain ⟨rfl, rfl, rfl⟩ := trodAll_nil r1
  obtain rfl : args = #[v0, v1] := by cases args; simp_all
  obtain ⟨rfl, rfl⟩ := trodVars_none hV
  have k0 := h0
  have lt0 : ∀ x ∈ p0, x.block < W.heap.size := by obtain ⟨m, hm⟩ := k0; exact DataW.trod_lt m _ _ _ hm
  obtain ⟨A00, c00, A01, c01, A02, c02, es0, ts0, cs0, rfl, hi0, hr0⟩ := arg_image (hval 0 26 v0 rfl rfl) h0
  have k1 := h1
  have lt1 : ∀ x ∈ p1, x.block < W.heap.size := by obtain ⟨m, hm⟩ := k1; exact DataW.trod_lt m _ _ _ hm
  obtain ⟨A10, c10, A11, c11, A12, c12, es1, ts1, cs1, rfl, hi1, hr1⟩ := arg_image (hval 1 26 v1 rfl rfl) h1
  clear hA0 hval0 hsz0
  refine (apart_calls _ _ _ _ _ _ _ _ _ _ _ _ _ _ _ _ _ _ W hi0 hi1 hr0 hr1).mono fun e W' ⟨he, bel⟩ => ?_
  subst he
  exact ⟨_, rfl, _, _, _, [], _, [], hW', trodAll_mk1 (shut_bool Try.underlying4 _), (trodAll_cons_mk (Below.trod laidOut (by kernel_rfl) (of_decide_eq_true (by kernel_rfl)) k0 bel lt0) (trodAll_cons_mk (Below.trod laidOut (by kernel_rfl) (of_decide_eq_true (by kernel_rfl)) k1 bel lt1) trodAll_mk0)), rfl, bel.frame _, fun h => by cases h⟩
theorem over : Rows.codeApartRow.holds Try.pinned (OpenSpec.ofChange Rows.codeApartSpec) :=
  OpenClaim.holds_of_wide 8 Try.f8 rfl rfl rfl rfl rfl rfl rfl ⟨rfl, rfl, rfl, rfl, rfl⟩ rfl rfl rfl rfl rfl (by kernel_rfl) Try.func8 (by kernel_rfl)
    (of_decide_eq_true (by kernel_rfl)) (by unfold Func.isWrapper; first | (rw [if_pos (by decide +kernel)]; kernel_rfl) | (rw [if_neg (by decide +kernel)]; exact ⟨rfl, rfl⟩))
    (fun os started H enc _ => lifted os started H enc)
theorem proved : Rows.CodeApartSaid := over
#print axioms proved
end Go.Proofs.Ytmjafkhkoifopaa.codeApart
namespace Go.Proofs.Ytmjafkhkoifopaa
/-- The row, under a short name, for the claim. -/
theorem codeApart_holds : Rows.CodeApartSaid := codeApart.proved
#print axioms codeApart_holds
end Go.Proofs.Ytmjafkhkoifopaa
