/- An image's bytes, or that it has none, are as the document says: CodeEncodes returns true, and leaves what it was given as it was; whatever the image. -/
import Derived.Test.YtmjafkhkoifopaaRows
import Derived.Test.YtmjafkhkoifopaaVM7
import Derived.Test.YtmjafkhkoifopaaVM9
import Derived.Test.YtmjafkhkoifopaaVNE
import Derived.Test.YtmjafkhkoifopaaVP
import Derived.Test.YtmjafkhkoifopaaVW
import Derived.Below
import Derived.ChangeOld
import Derived.OpenShut
import Derived.ProofKit
import Derived.ShutString
import Derived.SizedLaws
import Derived.WalkKit
section
/- CodeApart: its walk. -/
namespace Go.Proofs.Ytmjafkhkoifopaa.C16
open Go.RowKit Go.Proofs.YtmjafkhkoifopaaW.PrintWords Go.Proofs.YtmjafkhkoifopaaW.PrintLast Go.Proofs.YtmjafkhkoifopaaW.PrintMore Go.Proofs.Ytmjafkhkoifopaa.PCodeDecodes
set_option linter.unusedVariables false
set_option linter.unusedSimpArgs false
/-- Two images that came in, and their boxes. -/
structure Two (w wr : World) (A0 : Option Addr) (c0 : Nat) (A1 : Option Addr) (c1 : Nat) (A2 : Option Addr) (c2 : Nat) (es : List S45) (ts : List ByteArray) (cs : List S43)
    (B0 : Option Addr) (d0 : Nat) (B1 : Option Addr) (d1 : Nat) (B2 : Option Addr) (d2 : Nat) (es' : List S45) (ts' : List ByteArray) (cs' : List S43) : Prop where
  bel : Below w.heap.size w wr
  hi : ImgAt wr A0 c0 A1 c1 A2 c2 es ts cs
  hj : ImgAt wr B0 d0 B1 d1 B2 d2 es' ts' cs'
  bi : wr.heap[w.heap.size]? = some (.cells #[.slice A0 es.length c0, .slice A1 ts.length c1, .slice A2 cs.length c2] 26 (0, 0))
  bj : wr.heap[w.heap.size + 1]? = some (.cells #[.slice B0 es'.length d0, .slice B1 ts'.length d1, .slice B2 cs'.length d2] 26 (0, 0))
section
variable {w wr w1 : World} {A0 : Option Addr} {c0 : Nat} {A1 : Option Addr} {c1 : Nat} {A2 : Option Addr} {c2 : Nat} {es : List S45} {ts : List ByteArray} {cs : List S43} {B0 : Option Addr} {d0 : Nat} {B1 : Option Addr} {d1 : Nat} {B2 : Option Addr} {d2 : Nat} {es' : List S45} {ts' : List ByteArray} {cs' : List S43}
theorem Two.below (h : Two w wr A0 c0 A1 c1 A2 c2 es ts cs B0 d0 B1 d1 B2 d2 es' ts' cs') (hb : Below wr.heap.size wr w1) : Two w w1 A0 c0 A1 c1 A2 c2 es ts cs B0 d0 B1 d1 B2 d2 es' ts' cs' :=
  ⟨below_then h.bel h.bel.size hb, h.hi.below hb, h.hj.below hb, blk_below h.bi hb, blk_below h.bj hb⟩
theorem Two.drewN (h : Two w wr A0 c0 A1 c1 A2 c2 es ts cs B0 d0 B1 d1 B2 d2 es' ts' cs') (n : Nat) : Two w (wr.drewN n) A0 c0 A1 c1 A2 c2 es ts cs B0 d0 B1 d1 B2 d2 es' ts' cs' := h.below (pw_below_drewN (Below.refl _ _) n)
theorem Two.cells (h : Two w wr A0 c0 A1 c1 A2 c2 es ts cs B0 d0 B1 d1 B2 d2 es' ts' cs') :
    ((∀ j, wr.cell? ⟨w.heap.size, j, none⟩ = #[Value.slice A0 es.length c0, .slice A1 ts.length c1, .slice A2 cs.length c2][j]?) ∧ (∀ j, wr.frozen? ⟨w.heap.size, j, none⟩ = false)) ∧
    (∀ j, wr.cell? ⟨w.heap.size + 1, j, none⟩ = #[Value.slice B0 es'.length d0, .slice B1 ts'.length d1, .slice B2 cs'.length d2][j]?) ∧ (∀ j, wr.frozen? ⟨w.heap.size + 1, j, none⟩ = false) :=
  ⟨⟨fun j => blk_cell h.bi j, fun j => blk_frozen h.bi j⟩, fun j => blk_cell h.bj j, fun j => blk_frozen h.bj j⟩
theorem Two.start (hI : ImgAt w A0 c0 A1 c1 A2 c2 es ts cs) (hJ : ImgAt w B0 d0 B1 d1 B2 d2 es' ts' cs') :
    Two w ((w.alloc (.cells #[.slice A0 es.length c0, .slice A1 ts.length c1, .slice A2 cs.length c2] 26)).alloc (.cells #[.slice B0 es'.length d0, .slice B1 ts'.length d1, .slice B2 cs'.length d2] 26)) A0 c0 A1 c1 A2 c2 es ts cs B0 d0 B1 d1 B2 d2 es' ts' cs' := by
  have h2 := blk_new (w.alloc (.cells #[.slice A0 es.length c0, .slice A1 ts.length c1, .slice A2 cs.length c2] 26)) (.cells #[.slice B0 es'.length d0, .slice B1 ts'.length d1, .slice B2 cs'.length d2] 26)
  rw [World.size_alloc] at h2
  exact ⟨below2 _ _ _, hI.below (below2 _ _ _), hJ.below (below2 _ _ _), blk_alloc (blk_new _ _) _, h2⟩
end
/-- What Encode tells, in three arms. -/
theorem enc_arms {es : List S45} {ts : List ByteArray} {cs : List S43} {w w' : World} {e : Ending} (h : EncGives es ts cs w e w') :
    ∃ l A c err, e = .returned (.tuple #[.slice A l.length c, .int .i64 err]) ∧ Came w' A c l ∧ Below w.heap.size w w' ∧ Enc es ts cs l err := by
  obtain ⟨l, err, v, hE, rfl, ho, hb⟩ := h
  obtain ⟨A, c, rfl⟩ := Kd.R_slice ho
  obtain ⟨_, h1, h2⟩ := Kd.R_reads' ho
  refine ⟨l, A, c, err, rfl, ⟨?_, h1, h2⟩, hb, hE⟩
  rcases hE with ⟨_, rfl, _⟩ | ⟨_, _, rfl, _⟩ | ⟨_, _, rfl, _⟩
  · exact bytes_nil
  · exact bytes_nil
  · exact bytes_enc _ _ _
theorem enc_tells (es : List S45) (ts : List ByteArray) (cs : List S43) : ∃ l err, Enc es ts cs l err ∧ ∀ l' err', Enc es ts cs l' err' → l' = l ∧ err' = err := by
  by_cases hm : MayOk es ts cs
  · by_cases hl : 65536 < (encImage es ts cs).length
    · refine ⟨[], 3, .inr (.inl ⟨hm, hl, rfl, rfl⟩), fun l' err' h => ?_⟩
      rcases h with ⟨h1, _⟩ | ⟨_, _, h1, h2⟩ | ⟨_, h1, _⟩
      · exact absurd hm h1
      · exact ⟨h1, h2⟩
      · omega
    · refine ⟨encImage es ts cs, 0, .inr (.inr ⟨hm, by omega, rfl, rfl⟩), fun l' err' h => ?_⟩
      rcases h with ⟨h1, _⟩ | ⟨_, h1, _⟩ | ⟨_, _, h1, h2⟩
      · exact absurd hm h1
      · omega
      · exact ⟨h1, h2⟩
  · refine ⟨[], 5, .inl ⟨hm, rfl, rfl⟩, fun l' err' h => ?_⟩
    rcases h with ⟨_, h1, h2⟩ | ⟨h1, _⟩ | ⟨h1, _⟩
    · exact ⟨h1, h2⟩
    · exact absurd h1 hm
    · exact absurd h1 hm
theorem encode_at {es : List S45} {ts : List ByteArray} {cs : List S43} {l : List Int} {err : Int} (hU : ∀ l' err', Enc es ts cs l' err' → l' = l ∧ err' = err) {A0 : Option Addr} {c0 : Nat} {A1 : Option Addr} {c1 : Nat} {A2 : Option Addr} {c2 : Nat} {w : World} (hI : ImgAt w A0 c0 A1 c1 A2 c2 es ts cs) (hz : Small cs) :
    Calls Try.prog 13 #[imgV A0 c0 A1 c1 A2 c2 es ts cs] w fun e w' => ∃ A c, e = .returned (.tuple #[.slice A l.length c, .int .i64 err]) ∧ Came w' A c l ∧ Below w.heap.size w w' := by
  refine (encode_is A0 c0 A1 c1 A2 c2 es ts cs w hI hz).mono fun e w' h => ?_
  obtain ⟨l', A, c, err', he, hc, hb, hE⟩ := enc_arms h
  obtain ⟨rfl, rfl⟩ := hU _ _ hE
  exact ⟨A, c, he, hc, hb⟩
end Go.Proofs.Ytmjafkhkoifopaa.C16
end
section
/- CodeCuts: its walk. -/
namespace Go.Proofs.Ytmjafkhkoifopaa.C16
open Go.RowKit Go.Proofs.YtmjafkhkoifopaaW.PrintWords Go.Proofs.YtmjafkhkoifopaaW.PrintLast Go.Proofs.YtmjafkhkoifopaaW.PrintMore Go.Proofs.Ytmjafkhkoifopaa.PCodeDecodes
set_option linter.unusedVariables false
set_option linter.unusedSimpArgs false
/-- An image that came in, its box, and bytes that came in. -/
structure One (w wr : World) (A0 : Option Addr) (c0 : Nat) (A1 : Option Addr) (c1 : Nat) (A2 : Option Addr) (c2 : Nat) (es : List S45) (ts : List ByteArray) (cs : List S43) (A : Option Addr) (c : Nat) (bs : List Int) : Prop where
  bel : Below w.heap.size w wr
  hi : ImgAt wr A0 c0 A1 c1 A2 c2 es ts cs
  bi : wr.heap[w.heap.size]? = some (.cells #[.slice A0 es.length c0, .slice A1 ts.length c1, .slice A2 cs.length c2] 26 (0, 0))
  hm : Came wr A c bs
section
variable {w wr w1 : World} {A0 : Option Addr} {c0 : Nat} {A1 : Option Addr} {c1 : Nat} {A2 : Option Addr} {c2 : Nat} {es : List S45} {ts : List ByteArray} {cs : List S43} {A : Option Addr} {c : Nat} {bs : List Int}
theorem One.below (h : One w wr A0 c0 A1 c1 A2 c2 es ts cs A c bs) (hb : Below wr.heap.size wr w1) : One w w1 A0 c0 A1 c1 A2 c2 es ts cs A c bs :=
  ⟨below_then h.bel h.bel.size hb, h.hi.below hb, blk_below h.bi hb, h.hm.below hb⟩
theorem One.cells (h : One w wr A0 c0 A1 c1 A2 c2 es ts cs A c bs) : (∀ j, wr.cell? ⟨w.heap.size, j, none⟩ = #[Value.slice A0 es.length c0, .slice A1 ts.length c1, .slice A2 cs.length c2][j]?) ∧ (∀ j, wr.frozen? ⟨w.heap.size, j, none⟩ = false) :=
  ⟨fun j => blk_cell h.bi j, fun j => blk_frozen h.bi j⟩
theorem One.start (hI : ImgAt w A0 c0 A1 c1 A2 c2 es ts cs) (hM : Came w A c bs) : One w (w.alloc (.cells #[.slice A0 es.length c0, .slice A1 ts.length c1, .slice A2 cs.length c2] 26)) A0 c0 A1 c1 A2 c2 es ts cs A c bs :=
  ⟨below_alloc (Below.refl _ _) _, hI.below (below_alloc (Below.refl _ _) _), blk_new _ _, hM.below (below_alloc (Below.refl _ _) _)⟩
end
end Go.Proofs.Ytmjafkhkoifopaa.C16
end
section
/- The reference: what Encode tells. -/
namespace Go.Proofs.Ytmjafkhkoifopaa.C16
open Go.RowKit Go.Proofs.YtmjafkhkoifopaaW.PrintWords Go.Proofs.YtmjafkhkoifopaaW.PrintLast Go.Proofs.YtmjafkhkoifopaaW.PrintMore Go.Proofs.Ytmjafkhkoifopaa.PCodeDecodes
set_option linter.unusedVariables false
set_option linter.unusedSimpArgs false
theorem came_nil (w : World) : Came w none 0 [] := ⟨fun x hx => absurd hx (by simp), Nat.le_refl _, Kd.C_nil _ _⟩
set_option maxRecDepth 100000 in
set_option maxHeartbeats 4000000 in
theorem rencode_at {es : List S45} {ts : List ByteArray} {cs : List S43} {l : List Int} {err : Int} (hE : Enc es ts cs l err) {A0 : Option Addr} {c0 : Nat} {A1 : Option Addr} {c1 : Nat} {A2 : Option Addr} {c2 : Nat} {w : World} (hI : ImgAt w A0 c0 A1 c1 A2 c2 es ts cs) (hz : Small cs) :
    Calls Try.prog 14 #[imgV A0 c0 A1 c1 A2 c2 es ts cs] w fun e w' => ∃ A c, e = .returned (.tuple #[.slice A l.length c, .int .i64 err]) ∧ Came w' A c l ∧ Below w.heap.size w w' := by
  have HT := Aside0.mk (One.start hI (came_nil w))
  have HZ := Aside0.mk hz
  clear hI hz
  rcases hE with ⟨hm, rfl, rfl⟩ | ⟨hm, hl, rfl, rfl⟩ | ⟨hm, hl, he, rfl⟩
  · have HM := Aside0.mk hm
    clear hm
    go_enter Try.func14, Try.ntmps14
    go_wp2_with (go_at_call 12; refine (rmay_calls A0 c0 A1 c1 A2 c2 es ts cs _ HT.out.hi HZ.out).mono ?_; rintro e w1 ⟨hs, hb⟩; obtain rfl := hs.is (b := false) ⟨fun e_ => absurd e_ (by simp), fun h_ => absurd h_ HM.out⟩; have HT1 := Aside0.mk (HT.out.below hb); clear hs hb HT)
    exact bodyPost_ret (v := .tuple #[.slice none 0 0, .int .i64 5]) (by simp [results, Try.results14, go_sem]) rfl ⟨none, 0, rfl, came_nil _, HT1.out.bel⟩
  · have HM := Aside0.mk hm
    obtain ⟨l1, hl1⟩ : ∃ l1, Aside0 (encImage es ts cs = l1) := ⟨_, ⟨rfl⟩⟩
    rw [hl1.out] at hl
    have h65 : (65536 : Int) < l1.length := by omega
    clear hm hl
    go_enter Try.func14, Try.ntmps14
    go_wp2_with (first
      | (go_at_call 12; refine (rmay_calls A0 c0 A1 c1 A2 c2 es ts cs _ HT.out.hi HZ.out).mono ?_; rintro e w1 ⟨hs, hb⟩; obtain rfl := hs.is (b := true) ⟨fun _ => HM.out, fun _ => rfl⟩; have HT1 := Aside0.mk (HT.out.below hb); clear hs hb HT; obtain ⟨k1, k2⟩ := HT1.out.cells)
      | (go_at_call 30; refine (rbytes_go A0 c0 A1 c1 A2 c2 es ts cs w1 HT1.out.hi HZ.out HM.out).mono ?_; rintro e w2 ⟨v, rfl, hR, hb⟩; rw [hl1.out] at hR; obtain ⟨A9, c9, rfl⟩ := Kd.R_slice hR; have HT2 := Aside0.mk (HT1.out.below hb); clear hR hb HT1 k1 k2))
    exact bodyPost_ret (v := .tuple #[.slice none 0 0, .int .i64 3]) (by simp [results, Try.results14, go_sem]) rfl ⟨none, 0, rfl, came_nil _, HT2.out.bel⟩
  · have HM := Aside0.mk hm
    have HL := Aside0.mk he
    have HB := Aside0.mk (bytes_enc es ts cs)
    rw [← he] at hl HB
    have h65 : ¬ (65536 : Int) < l.length := by omega
    clear hm hl he
    go_enter Try.func14, Try.ntmps14
    go_wp2_with (first
      | (go_at_call 12; refine (rmay_calls A0 c0 A1 c1 A2 c2 es ts cs _ HT.out.hi HZ.out).mono ?_; rintro e w1 ⟨hs, hb⟩; obtain rfl := hs.is (b := true) ⟨fun _ => HM.out, fun _ => rfl⟩; have HT1 := Aside0.mk (HT.out.below hb); clear hs hb HT; obtain ⟨k1, k2⟩ := HT1.out.cells)
      | (go_at_call 30; refine (rbytes_go A0 c0 A1 c1 A2 c2 es ts cs w1 HT1.out.hi HZ.out HM.out).mono ?_; rintro e w2 ⟨v, rfl, hR, hb⟩; rw [← HL.out] at hR; obtain ⟨A9, c9, rfl⟩ := Kd.R_slice hR; have HC := Aside0.mk (Kd.R_reads' hR); have HT2 := Aside0.mk (HT1.out.below hb); clear hR hb HT1 k1 k2))
    exact bodyPost_ret (v := .tuple #[.slice A9 l.length c9, .int .i64 0]) (by simp [results, Try.results14, go_sem]) rfl ⟨A9, c9, rfl, ⟨HB.out, HC.out.2.1, HC.out.2.2⟩, HT2.out.bel⟩
end Go.Proofs.Ytmjafkhkoifopaa.C16
end
section
/- CodeEncodes: its walk. -/
namespace Go.Proofs.Ytmjafkhkoifopaa.C16
open Go.RowKit Go.Proofs.YtmjafkhkoifopaaW.PrintWords Go.Proofs.YtmjafkhkoifopaaW.PrintLast Go.Proofs.YtmjafkhkoifopaaW.PrintMore Go.Proofs.Ytmjafkhkoifopaa.PCodeDecodes
set_option linter.unusedVariables false
set_option linter.unusedSimpArgs false
set_option maxRecDepth 100000 in
set_option maxHeartbeats 4000000 in
theorem encodes_calls (A0 : Option Addr) (c0 : Nat) (A1 : Option Addr) (c1 : Nat) (A2 : Option Addr) (c2 : Nat) (es : List S45) (ts : List ByteArray) (cs : List S43) (w : World) (hI : ImgAt w A0 c0 A1 c1 A2 c2 es ts cs) :
    Calls Try.prog 4 #[imgV A0 c0 A1 c1 A2 c2 es ts cs] w fun e w' => e = .returned (.bool true) ∧ Below w.heap.size w w' := by
  have HT := Aside0.mk (One.start hI (came_nil w))
  obtain ⟨b1, hs1, hL1⟩ := large_is A0 c0 A1 c1 A2 c2 es ts cs
  obtain ⟨l1, e1, hE1, hU1⟩ := enc_tells es ts cs
  have HL1 := Aside0.mk hL1
  have HU1 := Aside0.mk hU1
  have HE1 := Aside0.mk hE1
  clear hI hL1 hE1 hU1
  cases b1 with
  | true =>
    clear hs1
    go_enter Try.func4, Try.ntmps4
    go_wp2_with (first
      | (go_at_call 9; refine (awake_calls _).mono ?_; rintro e w1 ⟨rfl, hb⟩; have HT1 := Aside0.mk (HT.out.below hb); clear hb HT; obtain ⟨k1, k2⟩ := HT1.out.cells)
      | (go_at_call 10; refine (HL1.out _ HT1.out.hi).mono ?_; rintro e w2 ⟨rfl, hb⟩; have HT2 := Aside0.mk (HT1.out.below hb); clear hb HT1 HL1 k1 k2; obtain ⟨k1, k2⟩ := HT2.out.cells))
    go_ret
    exact ⟨rfl, HT2.out.bel⟩
  | false =>
    have HS1 := Aside0.mk (hs1 rfl)
    clear hs1
    go_enter Try.func4, Try.ntmps4
    go_wp2_with (first
      | (go_at_call 9; refine (awake_calls _).mono ?_; rintro e w1 ⟨rfl, hb⟩; have HT1 := Aside0.mk (HT.out.below hb); clear hb HT; obtain ⟨k1, k2⟩ := HT1.out.cells)
      | (go_at_call 10; refine (HL1.out _ HT1.out.hi).mono ?_; rintro e w2 ⟨rfl, hb⟩; have HT2 := Aside0.mk (HT1.out.below hb); clear hb HT1 HL1 k1 k2; obtain ⟨k1, k2⟩ := HT2.out.cells)
      | (go_at_call 13; refine (encode_at HU1.out HT2.out.hi HS1.out).mono ?_; rintro e w4 ⟨P1, q1, rfl, hC, hb⟩; have HT4 := Aside0.mk (HT2.out.below hb); have HC1 := Aside0.mk hC; clear hb hC HT2 k1 k2; obtain ⟨k1, k2⟩ := HT4.out.cells)
      | (go_at_call 14; refine (rencode_at HE1.out HT4.out.hi HS1.out).mono ?_; rintro e w5 ⟨P2, q2, rfl, hC, hb⟩; have HT5 := Aside0.mk (HT4.out.below hb); have x1 := Kd.C_string Try.underlying29 Try.underlying5 Try.underlying9 (HC1.out.below hb).2.2 (c := q1); have x2 := Kd.C_string Try.underlying29 Try.underlying5 Try.underlying9 hC.2.2 (c := q2); clear hb hC HT4 HC1 k1 k2))
    go_ret
    exact ⟨rfl, HT5.out.bel⟩
end Go.Proofs.Ytmjafkhkoifopaa.C16
end
section
/- An image's bytes, or that it has none, are as the document says: CodeEncodes returns true whatever image it is given, and leaves what it was given as it was. -/
namespace Go.Proofs.Ytmjafkhkoifopaa.codeEncodes
open Go.ChangeShapes Go.WideShapes Go.ChangeAt Go.RowKit Go.Proofs.Ytmjafkhkoifopaa.C16
open Go.ChangeMaps (open_string shut_string)
set_option linter.unusedVariables false
theorem own : ownKnob Try.prog.godebug = none := by kernel_rfl
theorem laidOut : laidOutB Try.prog = true := by kernel_rfl
set_option maxRecDepth 100000 in
theorem lifted (os : Os) (started : os.Started) (H : Type) (enc : TypeId × Value → H) :
    ReturnsInHanded {} Try.checked os 4 .any (Rows.codeEncodesSpec.pre6 enc Try.prog Try.f4 Rows.codeEncodesRow.domain false) (Rows.codeEncodesSpec.post enc Try.prog Try.f4 false true false false) := by
  refine returnsInHanded_of_change_sized (C := Try.checked) own started (by kernel_rfl) Try.func4
    (ChangeSpec.witness6 (enc := enc) (C := Try.checked) false ⟨#[], #[.agg #[.slice none 0 0, .slice none 0 0, .slice none 0 0]], []⟩ 8 (by kernel_rfl) (by kernel_rfl) (by kernel_rfl) (by kernel_rfl)) ?_
  intro W base args ds gs before hval0 hW hcnd hsz0 _
  have hval : ∀ (j : Nat) t v, Try.f4.params[j]? = some t → args[j]? = some v → Value.okWide Try.prog W .any base t v := hval0
  have hW' := hW
  obtain ⟨p, q, hA0, hV, rfl, hfz, hnd⟩ := hW
  have hA : DataW.TrodAll enc Try.prog W 0 (fun _ => true) true Try.f4.params.toList args.toList ds p := hA0
  rw [Try.params4] at hA hval
  obtain ⟨v0, vs0, d0, ds0, p0, q0, hargs, rfl, rfl, h0, r0⟩ := trodAll_cons hA
  obtain ⟨rfl, rfl, rfl⟩ := trodAll_nil r0
  obtain rfl : args = #[v0] := by cases args; simp_all
  obtain ⟨rfl, rfl⟩ := trodVars_none hV
  have k0 := h0
  have lt0 : ∀ x ∈ p0, x.block < W.heap.size := by obtain ⟨m, hm⟩ := k0; exact DataW.trod_lt m _ _ _ hm
  obtain ⟨A00, c00, A01, c01, A02, c02, es0, ts0, cs0, rfl, hi0, hr0⟩ := arg_image (hval 0 26 v0 rfl rfl) h0
  clear hA0 hval0 hsz0
  refine (encodes_calls _ _ _ _ _ _ _ _ _ W hi0).mono fun e W' ⟨he, bel⟩ => ?_
  subst he
  exact ⟨_, rfl, _, _, _, [], _, [], hW', trodAll_mk1 (shut_bool Try.underlying4 _), (trodAll_cons_mk (Below.trod laidOut (by kernel_rfl) (of_decide_eq_true (by kernel_rfl)) k0 bel lt0) trodAll_mk0), rfl, bel.frame _, fun h => by cases h⟩
theorem over : Rows.codeEncodesRow.holds Try.pinned (OpenSpec.ofChange Rows.codeEncodesSpec) :=
  OpenClaim.holds_of_wide 4 Try.f4 rfl rfl rfl rfl rfl rfl rfl ⟨rfl, rfl, rfl, rfl, rfl⟩ rfl rfl rfl rfl rfl (by kernel_rfl) Try.func4 (by kernel_rfl)
    (of_decide_eq_true (by kernel_rfl)) (by unfold Func.isWrapper; first | (rw [if_pos (by decide +kernel)]; kernel_rfl) | (rw [if_neg (by decide +kernel)]; exact ⟨rfl, rfl⟩))
    (fun os started H enc _ => lifted os started H enc)
theorem proved : Rows.CodeEncodesSaid := over
#print axioms proved
end Go.Proofs.Ytmjafkhkoifopaa.codeEncodes
namespace Go.Proofs.Ytmjafkhkoifopaa
/-- The row, under a short name, for the claim. -/
theorem codeEncodes_holds : Rows.CodeEncodesSaid := codeEncodes.proved
#print axioms codeEncodes_holds
end Go.Proofs.Ytmjafkhkoifopaa
end
