/- Which images may be is as the document says: CodeMay returns true, and leaves what it was given as it was; whatever the image. -/
import Derived.Test.YtmjafkhkoifopaaKM7
import Derived.Test.YtmjafkhkoifopaaKM9
import Derived.Test.YtmjafkhkoifopaaKNE
import Derived.Test.YtmjafkhkoifopaaKW
import Derived.Test.YtmjafkhkoifopaaRows
import Derived.Below
import Derived.ChangeOld
import Derived.OpenShut
import Derived.ProofKit
import Derived.ShutString
import Derived.SizedLaws
import Derived.WalkKit
section
/- CodeApart: its walk. -/
namespace Go.Proofs.Ytmjafkhkoifopaa.C16
open Go.RowKit Go.Proofs.YtmjafkhkoifopaaW.PrintWords Go.Proofs.YtmjafkhkoifopaaW.PrintLast Go.Proofs.YtmjafkhkoifopaaW.PrintMore Go.Proofs.Ytmjafkhkoifopaa.PCodeDecodes
set_option linter.unusedVariables false
set_option linter.unusedSimpArgs false
/-- Two images that came in, and their boxes. -/
structure Two (w wr : World) (A0 : Option Addr) (c0 : Nat) (A1 : Option Addr) (c1 : Nat) (A2 : Option Addr) (c2 : Nat) (es : List S45) (ts : List ByteArray) (cs : List S43)
    (B0 : Option Addr) (d0 : Nat) (B1 : Option Addr) (d1 : Nat) (B2 : Option Addr) (d2 : Nat) (es' : List S45) (ts' : List ByteArray) (cs' : List S43) : Prop where
  bel : Below w.heap.size w wr
  hi : ImgAt wr A0 c0 A1 c1 A2 c2 es ts cs
  hj : ImgAt wr B0 d0 B1 d1 B2 d2 es' ts' cs'
  bi : wr.heap[w.heap.size]? = some (.cells #[.slice A0 es.length c0, .slice A1 ts.length c1, .slice A2 cs.length c2] 26 (0, 0))
  bj : wr.heap[w.heap.size + 1]? = some (.cells #[.slice B0 es'.length d0, .slice B1 ts'.length d1, .slice B2 cs'.length d2] 26 (0, 0))
section
variable {w wr w1 : World} {A0 : Option Addr} {c0 : Nat} {A1 : Option Addr} {c1 : Nat} {A2 : Option Addr} {c2 : Nat} {es : List S45} {ts : List ByteArray} {cs : List S43} {B0 : Option Addr} {d0 : Nat} {B1 : Option Addr} {d1 : Nat} {B2 : Option Addr} {d2 : Nat} {es' : List S45} {ts' : List ByteArray} {cs' : List S43}
theorem Two.below (h : Two w wr A0 c0 A1 c1 A2 c2 es ts cs B0 d0 B1 d1 B2 d2 es' ts' cs') (hb : Below wr.heap.size wr w1) : Two w w1 A0 c0 A1 c1 A2 c2 es ts cs B0 d0 B1 d1 B2 d2 es' ts' cs' :=
  ⟨below_then h.bel h.bel.size hb, h.hi.below hb, h.hj.below hb, blk_below h.bi hb, blk_below h.bj hb⟩
theorem Two.drewN (h : Two w wr A0 c0 A1 c1 A2 c2 es ts cs B0 d0 B1 d1 B2 d2 es' ts' cs') (n : Nat) : Two w (wr.drewN n) A0 c0 A1 c1 A2 c2 es ts cs B0 d0 B1 d1 B2 d2 es' ts' cs' := h.below (pw_below_drewN (Below.refl _ _) n)
theorem Two.cells (h : Two w wr A0 c0 A1 c1 A2 c2 es ts cs B0 d0 B1 d1 B2 d2 es' ts' cs') :
    ((∀ j, wr.cell? ⟨w.heap.size, j, none⟩ = #[Value.slice A0 es.length c0, .slice A1 ts.length c1, .slice A2 cs.length c2][j]?) ∧ (∀ j, wr.frozen? ⟨w.heap.size, j, none⟩ = false)) ∧
    (∀ j, wr.cell? ⟨w.heap.size + 1, j, none⟩ = #[Value.slice B0 es'.length d0, .slice B1 ts'.length d1, .slice B2 cs'.length d2][j]?) ∧ (∀ j, wr.frozen? ⟨w.heap.size + 1, j, none⟩ = false) :=
  ⟨⟨fun j => blk_cell h.bi j, fun j => blk_frozen h.bi j⟩, fun j => blk_cell h.bj j, fun j => blk_frozen h.bj j⟩
theorem Two.start (hI : ImgAt w A0 c0 A1 c1 A2 c2 es ts cs) (hJ : ImgAt w B0 d0 B1 d1 B2 d2 es' ts' cs') :
    Two w ((w.alloc (.cells #[.slice A0 es.length c0, .slice A1 ts.length c1, .slice A2 cs.length c2] 26)).alloc (.cells #[.slice B0 es'.length d0, .slice B1 ts'.length d1, .slice B2 cs'.length d2] 26)) A0 c0 A1 c1 A2 c2 es ts cs B0 d0 B1 d1 B2 d2 es' ts' cs' := by
  have h2 := blk_new (w.alloc (.cells #[.slice A0 es.length c0, .slice A1 ts.length c1, .slice A2 cs.length c2] 26)) (.cells #[.slice B0 es'.length d0, .slice B1 ts'.length d1, .slice B2 cs'.length d2] 26)
  rw [World.size_alloc] at h2
  exact ⟨below2 _ _ _, hI.below (below2 _ _ _), hJ.below (below2 _ _ _), blk_alloc (blk_new _ _) _, h2⟩
end
end Go.Proofs.Ytmjafkhkoifopaa.C16
end
section
/- CodeCuts: its walk. -/
namespace Go.Proofs.Ytmjafkhkoifopaa.C16
open Go.RowKit Go.Proofs.YtmjafkhkoifopaaW.PrintWords Go.Proofs.YtmjafkhkoifopaaW.PrintLast Go.Proofs.YtmjafkhkoifopaaW.PrintMore Go.Proofs.Ytmjafkhkoifopaa.PCodeDecodes
set_option linter.unusedVariables false
set_option linter.unusedSimpArgs false
/-- An image that came in, its box, and bytes that came in. -/
structure One (w wr : World) (A0 : Option Addr) (c0 : Nat) (A1 : Option Addr) (c1 : Nat) (A2 : Option Addr) (c2 : Nat) (es : List S45) (ts : List ByteArray) (cs : List S43) (A : Option Addr) (c : Nat) (bs : List Int) : Prop where
  bel : Below w.heap.size w wr
  hi : ImgAt wr A0 c0 A1 c1 A2 c2 es ts cs
  bi : wr.heap[w.heap.size]? = some (.cells #[.slice A0 es.length c0, .slice A1 ts.length c1, .slice A2 cs.length c2] 26 (0, 0))
  hm : Came wr A c bs
section
variable {w wr w1 : World} {A0 : Option Addr} {c0 : Nat} {A1 : Option Addr} {c1 : Nat} {A2 : Option Addr} {c2 : Nat} {es : List S45} {ts : List ByteArray} {cs : List S43} {A : Option Addr} {c : Nat} {bs : List Int}
theorem One.below (h : One w wr A0 c0 A1 c1 A2 c2 es ts cs A c bs) (hb : Below wr.heap.size wr w1) : One w w1 A0 c0 A1 c1 A2 c2 es ts cs A c bs :=
  ⟨below_then h.bel h.bel.size hb, h.hi.below hb, blk_below h.bi hb, h.hm.below hb⟩
theorem One.cells (h : One w wr A0 c0 A1 c1 A2 c2 es ts cs A c bs) : (∀ j, wr.cell? ⟨w.heap.size, j, none⟩ = #[Value.slice A0 es.length c0, .slice A1 ts.length c1, .slice A2 cs.length c2][j]?) ∧ (∀ j, wr.frozen? ⟨w.heap.size, j, none⟩ = false) :=
  ⟨fun j => blk_cell h.bi j, fun j => blk_frozen h.bi j⟩
theorem One.start (hI : ImgAt w A0 c0 A1 c1 A2 c2 es ts cs) (hM : Came w A c bs) : One w (w.alloc (.cells #[.slice A0 es.length c0, .slice A1 ts.length c1, .slice A2 cs.length c2] 26)) A0 c0 A1 c1 A2 c2 es ts cs A c bs :=
  ⟨below_alloc (Below.refl _ _) _, hI.below (below_alloc (Below.refl _ _) _), blk_new _ _, hM.below (below_alloc (Below.refl _ _) _)⟩
end
end Go.Proofs.Ytmjafkhkoifopaa.C16
end
section
/- CodeBack: its walk. -/
namespace Go.Proofs.Ytmjafkhkoifopaa.C16
open Go.RowKit Go.Proofs.YtmjafkhkoifopaaW.PrintWords Go.Proofs.YtmjafkhkoifopaaW.PrintLast Go.Proofs.YtmjafkhkoifopaaW.PrintMore Go.Proofs.Ytmjafkhkoifopaa.PCodeDecodes
set_option linter.unusedVariables false
set_option linter.unusedSimpArgs false
theorem sized_of {cs : List S43} (h : Small cs) : Sized cs := fun c hc => by have := h c hc; omega
end Go.Proofs.Ytmjafkhkoifopaa.C16
end
section
/- CodeMay: its walk. -/
namespace Go.Proofs.Ytmjafkhkoifopaa.C16
open Go.RowKit Go.Proofs.YtmjafkhkoifopaaW.PrintWords Go.Proofs.YtmjafkhkoifopaaW.PrintLast Go.Proofs.YtmjafkhkoifopaaW.PrintMore Go.Proofs.Ytmjafkhkoifopaa.PCodeDecodes
set_option linter.unusedVariables false
set_option linter.unusedSimpArgs false
set_option maxRecDepth 100000 in
set_option maxHeartbeats 4000000 in
theorem maylaw_calls (A0 : Option Addr) (c0 : Nat) (A1 : Option Addr) (c1 : Nat) (A2 : Option Addr) (c2 : Nat) (es : List S45) (ts : List ByteArray) (cs : List S43) (w : World) (hI : ImgAt w A0 c0 A1 c1 A2 c2 es ts cs) :
    Calls Try.prog 3 #[imgV A0 c0 A1 c1 A2 c2 es ts cs] w fun e w' => e = .returned (.bool true) ∧ Below w.heap.size w w' := by
  have HT := Aside0.mk (One.start (A := none) (c := 0) (bs := []) hI ⟨fun x hx => absurd hx (by simp), Nat.le_refl _, Kd.C_nil _ _⟩)
  obtain ⟨b1, hs1, hL1⟩ := large_is A0 c0 A1 c1 A2 c2 es ts cs
  have HL1 := Aside0.mk hL1
  clear hI hL1
  cases b1 with
  | true =>
    clear hs1
    go_enter Try.func3, Try.ntmps3
    go_wp2_with (go_at_call 9; refine (awake_calls _).mono ?_; rintro e w1 ⟨rfl, hb⟩; have HT1 := Aside0.mk (One.below (HT.out.below hb) (below_drew (Below.refl _ _))); clear hb HT; obtain ⟨k1, k2⟩ := HT1.out.cells)
    go_region_law (first
      | (refine goes_ (f := 10) Try.func10 (by kernel_rfl) rfl #[imgV A0 c0 A1 c1 A2 c2 es ts cs] (by rfl) rfl rfl (by simp [Act.eval, Act.put]) ?_; refine (HL1.out _ HT1.out.hi).mono ?_; rintro e w2 ⟨rfl, hb⟩; refine ⟨_, rfl, ?_⟩; have HT2 := Aside0.mk (HT1.out.below hb); clear hb k1 k2; obtain ⟨k1, k2⟩ := HT2.out.cells))
    all_goals
      go_wp2
      go_ret
      exact ⟨rfl, HT2.out.bel⟩
  | false =>
    have HS1 := Aside0.mk (hs1 rfl)
    clear hs1
    by_cases hm : MayOk es ts cs
    · have HBM := Aside0.mk hm
      clear hm
      go_enter Try.func3, Try.ntmps3
      go_wp2_with (go_at_call 9; refine (awake_calls _).mono ?_; rintro e w1 ⟨rfl, hb⟩; have HT1 := Aside0.mk (One.below (HT.out.below hb) (below_drew (Below.refl _ _))); clear hb HT; obtain ⟨k1, k2⟩ := HT1.out.cells)
      go_region_law (first
        | (refine goes_ (f := 10) Try.func10 (by kernel_rfl) rfl #[imgV A0 c0 A1 c1 A2 c2 es ts cs] (by rfl) rfl rfl (by simp [Act.eval, Act.put]) ?_; refine (HL1.out _ HT1.out.hi).mono ?_; rintro e w2 ⟨rfl, hb⟩; refine ⟨_, rfl, ?_⟩; have HT2 := Aside0.mk (HT1.out.below hb); clear hb k1 k2; obtain ⟨k1, k2⟩ := HT2.out.cells)
        | (refine goes_ (f := 11) Try.func11 (by kernel_rfl) rfl #[imgV A0 c0 A1 c1 A2 c2 es ts cs] (by rfl) rfl rfl (by simp [Act.eval, Act.put]) ?_; refine (may_calls A0 c0 A1 c1 A2 c2 es ts cs w2 HT2.out.hi (sized_of HS1.out)).mono ?_; rintro e w3 ⟨hs, hb⟩; obtain rfl := hs.is (b := true) ⟨fun _ => HBM.out, fun _ => rfl⟩; refine ⟨_, rfl, ?_⟩; have HT3 := Aside0.mk (HT2.out.below hb); clear hs hb k1 k2; obtain ⟨k1, k2⟩ := HT3.out.cells)
        | (refine goes_ (f := 12) Try.func12 (by kernel_rfl) rfl #[imgV A0 c0 A1 c1 A2 c2 es ts cs] (by rfl) rfl rfl (by simp [Act.eval, Act.put]) ?_; refine (rmay_calls A0 c0 A1 c1 A2 c2 es ts cs w3 HT3.out.hi HS1.out).mono ?_; rintro e w4 ⟨hs, hb⟩; obtain rfl := hs.is (b := true) ⟨fun _ => HBM.out, fun _ => rfl⟩; refine ⟨_, rfl, ?_⟩; have HT4 := Aside0.mk (HT3.out.below hb); clear hs hb k1 k2; obtain ⟨k1, k2⟩ := HT4.out.cells))
      all_goals
        go_wp2
        go_ret
        exact ⟨rfl, HT4.out.bel⟩
    · have HBM := Aside0.mk hm
      clear hm
      go_enter Try.func3, Try.ntmps3
      go_wp2_with (go_at_call 9; refine (awake_calls _).mono ?_; rintro e w1 ⟨rfl, hb⟩; have HT1 := Aside0.mk (One.below (HT.out.below hb) (below_drew (Below.refl _ _))); clear hb HT; obtain ⟨k1, k2⟩ := HT1.out.cells)
      go_region_law (first
        | (refine goes_ (f := 10) Try.func10 (by kernel_rfl) rfl #[imgV A0 c0 A1 c1 A2 c2 es ts cs] (by rfl) rfl rfl (by simp [Act.eval, Act.put]) ?_; refine (HL1.out _ HT1.out.hi).mono ?_; rintro e w2 ⟨rfl, hb⟩; refine ⟨_, rfl, ?_⟩; have HT2 := Aside0.mk (HT1.out.below hb); clear hb k1 k2; obtain ⟨k1, k2⟩ := HT2.out.cells)
        | (refine goes_ (f := 11) Try.func11 (by kernel_rfl) rfl #[imgV A0 c0 A1 c1 A2 c2 es ts cs] (by rfl) rfl rfl (by simp [Act.eval, Act.put]) ?_; refine (may_calls A0 c0 A1 c1 A2 c2 es ts cs w2 HT2.out.hi (sized_of HS1.out)).mono ?_; rintro e w3 ⟨hs, hb⟩; obtain rfl := hs.is (b := false) ⟨fun e_ => absurd e_ (by simp), fun h_ => absurd h_ HBM.out⟩; refine ⟨_, rfl, ?_⟩; have HT3 := Aside0.mk (HT2.out.below hb); clear hs hb k1 k2; obtain ⟨k1, k2⟩ := HT3.out.cells)
        | (refine goes_ (f := 12) Try.func12 (by kernel_rfl) rfl #[imgV A0 c0 A1 c1 A2 c2 es ts cs] (by rfl) rfl rfl (by simp [Act.eval, Act.put]) ?_; refine (rmay_calls A0 c0 A1 c1 A2 c2 es ts cs w3 HT3.out.hi HS1.out).mono ?_; rintro e w4 ⟨hs, hb⟩; obtain rfl := hs.is (b := false) ⟨fun e_ => absurd e_ (by simp), fun h_ => absurd h_ HBM.out⟩; refine ⟨_, rfl, ?_⟩; have HT4 := Aside0.mk (HT3.out.below hb); clear hs hb k1 k2; obtain ⟨k1, k2⟩ := HT4.out.cells))
      all_goals
        go_wp2
        go_ret
        exact ⟨rfl, HT4.out.bel⟩
end Go.Proofs.Ytmjafkhkoifopaa.C16
end
section
/- Which images may be is as the document says: CodeMay returns true whatever image it is given, and leaves what it was given as it was. -/
namespace Go.Proofs.Ytmjafkhkoifopaa.codeMay
open Go.ChangeShapes Go.WideShapes Go.ChangeAt Go.RowKit Go.Proofs.Ytmjafkhkoifopaa.C16
open Go.ChangeMaps (open_string shut_string)
set_option linter.unusedVariables false
theorem own : ownKnob Try.prog.godebug = none := by kernel_rfl
theorem laidOut : laidOutB Try.prog = true := by kernel_rfl
set_option maxRecDepth 100000 in
theorem lifted (os : Os) (started : os.Started) (H : Type) (enc : TypeId × Value → H) :
    ReturnsInHanded {} Try.checked os 3 .any (Rows.codeMaySpec.pre6 enc Try.prog Try.f3 Rows.codeMayRow.domain false) (Rows.codeMaySpec.post enc Try.prog Try.f3 false true false false) := by
  refine returnsInHanded_of_change_sized (C := Try.checked) own started (by kernel_rfl) Try.func3
    (ChangeSpec.witness6 (enc := enc) (C := Try.checked) false ⟨#[], #[.agg #[.slice none 0 0, .slice none 0 0, .slice none 0 0]], []⟩ 8 (by kernel_rfl) (by kernel_rfl) (by kernel_rfl) (by kernel_rfl)) ?_
  intro W base args ds gs before hval0 hW hcnd hsz0 _
  have hval : ∀ (j : Nat) t v, Try.f3.params[j]? = some t → args[j]? = some v → Value.okWide Try.prog W .any base t v := hval0
  have hW' := hW
  obtain ⟨p, q, hA0, hV, rfl, hfz, hnd⟩ := hW
  have hA : DataW.TrodAll enc Try.prog W 0 (fun _ => true) true Try.f3.params.toList args.toList ds p := hA0
  rw [Try.params3] at hA hval
  obtain ⟨v0, vs0, d0, ds0, p0, q0, hargs, rfl, rfl, h0, r0⟩ := trodAll_cons hA
  obtain ⟨rfl, rfl, rfl⟩ := trodAll_nil r0
  obtain rfl : args = #[v0] := by cases args; simp_all
  obtain ⟨rfl, rfl⟩ := trodVars_none hV
  have k0 := h0
  have lt0 : ∀ x ∈ p0, x.block < W.heap.size := by obtain ⟨m, hm⟩ := k0; exact DataW.trod_lt m _ _ _ hm
  obtain ⟨A00, c00, A01, c01, A02, c02, es0, ts0, cs0, rfl, hi0, hr0⟩ := arg_image (hval 0 26 v0 rfl rfl) h0
  clear hA0 hval0 hsz0
  refine (maylaw_calls _ _ _ _ _ _ _ _ _ W hi0).mono fun e W' ⟨he, bel⟩ => ?_
  subst he
  exact ⟨_, rfl, _, _, _, [], _, [], hW', trodAll_mk1 (shut_bool Try.underlying4 _), (trodAll_cons_mk (Below.trod laidOut (by kernel_rfl) (of_decide_eq_true (by kernel_rfl)) k0 bel lt0) trodAll_mk0), rfl, bel.frame _, fun h => by cases h⟩
theorem over : Rows.codeMayRow.holds Try.pinned (OpenSpec.ofChange Rows.codeMaySpec) :=
  OpenClaim.holds_of_wide 3 Try.f3 rfl rfl rfl rfl rfl rfl rfl ⟨rfl, rfl, rfl, rfl, rfl⟩ rfl rfl rfl rfl rfl (by kernel_rfl) Try.func3 (by kernel_rfl)
    (of_decide_eq_true (by kernel_rfl)) (by unfold Func.isWrapper; first | (rw [if_pos (by decide +kernel)]; kernel_rfl) | (rw [if_neg (by decide +kernel)]; exact ⟨rfl, rfl⟩))
    (fun os started H enc _ => lifted os started H enc)
theorem proved : Rows.CodeMaySaid := over
#print axioms proved
end Go.Proofs.Ytmjafkhkoifopaa.codeMay
namespace Go.Proofs.Ytmjafkhkoifopaa
/-- The row, under a short name, for the claim. -/
theorem codeMay_holds : Rows.CodeMaySaid := codeMay.proved
#print axioms codeMay_holds
end Go.Proofs.Ytmjafkhkoifopaa
end
