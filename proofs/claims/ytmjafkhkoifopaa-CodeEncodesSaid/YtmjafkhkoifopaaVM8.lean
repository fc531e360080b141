import Derived.Test.YtmjafkhkoifopaaVM6
import Derived.Test.YtmjafkhkoifopaaVW
section
/- The reference: are two images the same? -/
namespace Go.Proofs.Ytmjafkhkoifopaa.C16
open Go.RowKit Go.Proofs.YtmjafkhkoifopaaW.PrintWords Go.Proofs.YtmjafkhkoifopaaW.PrintLast Go.Proofs.YtmjafkhkoifopaaW.PrintMore Go.Proofs.Ytmjafkhkoifopaa.PCodeDecodes
set_option linter.unusedVariables false
set_option linter.unusedSimpArgs false
theorem eqA45 (d : Nat) (w : World) (x0 y0 : ByteArray) (x1 y1 : Bool) :
    (Op.equalIn (d + 2) 45 (.agg #[.string x0, .bool x1]) (.agg #[.string y0, .bool y1])).run Try.prog w = .ok (x0.toList == y0.toList && (x1 == y1)) w := by
  refine eqA_of Try.underlying45 (by kernel_rfl) ?_
  refine eqf_cons (by rfl) (by go_simp; rfl) (by go_simp; rfl) (by go_simp) ?_
  exact eqf_last (by rfl) (by go_simp; rfl) (by go_simp; rfl) (by go_simp)
attribute [local go_sem high] eqA45
abbrev TW (w0 w : World) (bx : List Bx) : Prop := EN w0 w bx (.slice none 0 0) []
theorem TW.start (w : World) (x y : Array Value) : TW w ((w.alloc (.cells x 26)).alloc (.cells y 26)) [(w.heap.size + 1, y, 26), (w.heap.size, x, 26)] := by
  have h : TW w w [] := ⟨Kd.R_nil _ _ _ _ _, Below.refl _ _, fun p hp => absurd hp (by simp)⟩
  have h2 := (h.push x 26 (by decide)).push y 26 (by decide)
  rwa [World.size_alloc] at h2
theorem TW.two {w0 w : World} {g g' : Nat} {x y : Array Value} (h : TW w0 w [(g', y, 26), (g, x, 26)]) : ((∀ j, w.cell? ⟨g, j, none⟩ = x[j]?) ∧ (∀ j, w.frozen? ⟨g, j, none⟩ = false)) ∧ (∀ j, w.cell? ⟨g', j, none⟩ = y[j]?) ∧ (∀ j, w.frozen? ⟨g', j, none⟩ = false) :=
  ⟨h.cells (g, x, 26) (by simp), h.cells (g', y, 26) (by simp)⟩
def SameSo (es es' : List S45) (ts ts' : List ByteArray) (cs cs' : List S43) : Prop := es = es' ∧ ts = ts' ∧ cs = cs'
theorem es_not {es es' : List S45} {ts ts' : List ByteArray} {cs cs' : List S43} {k : Nat} (h : k < es.length) (h' : k < es'.length) : es[k] ≠ es'[k] → ¬ SameSo es es' ts ts' cs cs' := by
  intro hne hs
  apply hne
  have := hs.1
  subst this
  rfl
theorem es_step {es es' : List S45} {k : Nat} (hE : ∀ j (h : j < es.length) (h' : j < es'.length), j < k → es[j] = es'[j]) (h : k < es.length) (h' : k < es'.length) : es[k] = es'[k] → ∀ j (h : j < es.length) (h' : j < es'.length), j < k + 1 → es[j] = es'[j] := by
  intro e j h1 h2 hj
  by_cases hjk : j < k
  · exact hE j h1 h2 hjk
  · obtain rfl : j = k := by omega
    exact e
theorem es_all {es es' : List S45} {k : Nat} (hE : ∀ j (h : j < es.length) (h' : j < es'.length), j < k → es[j] = es'[j]) (hl : es.length = es'.length) (h : ¬ k < es.length) : es = es' :=
  List.ext_getElem hl (fun j h1 h2 => hE j h1 h2 (by omega))
theorem ts_not {es es' : List S45} {ts ts' : List ByteArray} {cs cs' : List S43} {k : Nat} (h : k < ts.length) (h' : k < ts'.length) : ts[k] ≠ ts'[k] → ¬ SameSo es es' ts ts' cs cs' := by
  intro hne hs
  apply hne
  have := hs.2.1
  subst this
  rfl
theorem ts_step {ts ts' : List ByteArray} {k : Nat} (hE : ∀ j (h : j < ts.length) (h' : j < ts'.length), j < k → ts[j] = ts'[j]) (h : k < ts.length) (h' : k < ts'.length) : ts[k] = ts'[k] → ∀ j (h : j < ts.length) (h' : j < ts'.length), j < k + 1 → ts[j] = ts'[j] := by
  intro e j h1 h2 hj
  by_cases hjk : j < k
  · exact hE j h1 h2 hjk
  · obtain rfl : j = k := by omega
    exact e
theorem ts_all {ts ts' : List ByteArray} {k : Nat} (hE : ∀ j (h : j < ts.length) (h' : j < ts'.length), j < k → ts[j] = ts'[j]) (hl : ts.length = ts'.length) (h : ¬ k < ts.length) : ts = ts' :=
  List.ext_getElem hl (fun j h1 h2 => hE j h1 h2 (by omega))
theorem cs_not {es es' : List S45} {ts ts' : List ByteArray} {cs cs' : List S43} {k : Nat} (h : k < cs.length) (h' : k < cs'.length) : cs[k] ≠ cs'[k] → ¬ SameSo es es' ts ts' cs cs' := by
  intro hne hs
  apply hne
  have := hs.2.2
  subst this
  rfl
theorem cs_step {cs cs' : List S43} {k : Nat} (hE : ∀ j (h : j < cs.length) (h' : j < cs'.length), j < k → cs[j] = cs'[j]) (h : k < cs.length) (h' : k < cs'.length) : cs[k] = cs'[k] → ∀ j (h : j < cs.length) (h' : j < cs'.length), j < k + 1 → cs[j] = cs'[j] := by
  intro e j h1 h2 hj
  by_cases hjk : j < k
  · exact hE j h1 h2 hjk
  · obtain rfl : j = k := by omega
    exact e
theorem cs_all {cs cs' : List S43} {k : Nat} (hE : ∀ j (h : j < cs.length) (h' : j < cs'.length), j < k → cs[j] = cs'[j]) (hl : cs.length = cs'.length) (h : ¬ k < cs.length) : cs = cs' :=
  List.ext_getElem hl (fun j h1 h2 => hE j h1 h2 (by omega))
theorem TW.push2 {w0 w : World} {bx : List Bx} (h : TW w0 w bx) (x y : Array Value) : TW w0 ((w.alloc (.cells x 43)).alloc (.cells y 43)) ((w.heap.size + 1, y, 43) :: (w.heap.size, x, 43) :: bx) := by
  have h2 := EN.push (EN.push h x 43 (by decide)) y 43 (by decide)
  rwa [World.size_alloc] at h2
theorem TW.four {w0 w : World} {b1 b2 b3 b4 : Bx} (h : TW w0 w [b1, b2, b3, b4]) :
    ((∀ j, w.cell? ⟨b1.1, j, none⟩ = b1.2.1[j]?) ∧ (∀ j, w.frozen? ⟨b1.1, j, none⟩ = false)) ∧ ((∀ j, w.cell? ⟨b2.1, j, none⟩ = b2.2.1[j]?) ∧ (∀ j, w.frozen? ⟨b2.1, j, none⟩ = false)) ∧
    ((∀ j, w.cell? ⟨b3.1, j, none⟩ = b3.2.1[j]?) ∧ (∀ j, w.frozen? ⟨b3.1, j, none⟩ = false)) ∧ (∀ j, w.cell? ⟨b4.1, j, none⟩ = b4.2.1[j]?) ∧ (∀ j, w.frozen? ⟨b4.1, j, none⟩ = false) :=
  ⟨h.cells b1 (by simp), h.cells b2 (by simp), h.cells b3 (by simp), h.cells b4 (by simp)⟩
theorem TW.three {w0 w : World} {b1 b2 b3 : Bx} (h : TW w0 w [b1, b2, b3]) :
    (∀ j, w.cell? ⟨b2.1, j, none⟩ = b2.2.1[j]?) ∧ (∀ j, w.frozen? ⟨b2.1, j, none⟩ = false) ∧ (∀ j, w.cell? ⟨b3.1, j, none⟩ = b3.2.1[j]?) ∧ (∀ j, w.frozen? ⟨b3.1, j, none⟩ = false) :=
  ⟨(h.cells b2 (by simp)).1, (h.cells b2 (by simp)).2, (h.cells b3 (by simp)).1, (h.cells b3 (by simp)).2⟩
theorem same_is (A : Option Addr) (c : Nat) (l : List Int) (B : Option Addr) (d : Nat) (m : List Int) (w : World) (b : Bool) (hA : Kd.C (Kd.int .i64) w A l.length l) (hc : l.length ≤ c) (hB : Kd.C (Kd.int .i64) w B m.length m) (hd : m.length ≤ d) (hl : l.length ≤ 9223372036854775806) (hb : decide (l = m) = b) :
    Calls Try.prog 39 #[.slice A l.length c, .slice B m.length d] w fun e w' => e = .returned (.bool b) ∧ Drawn0 w w' :=
  grapnelref16_same64.calls _ A c l B d m b w hA hc hB hd (by rw [same64_f l m hl, hb])
theorem pl_step {l m : List Int} {k : Nat} (hE : ∀ j (h : j < l.length) (h' : j < m.length), j < k → l[j] = m[j]) (h : k < l.length) (h' : k < m.length) : l[k] = m[k] → ∀ j (h : j < l.length) (h' : j < m.length), j < k + 1 → l[j] = m[j] := by
  intro e j h1 h2 hj
  by_cases hjk : j < k
  · exact hE j h1 h2 hjk
  · obtain rfl : j = k := by omega
    exact e
theorem pl_not {l m : List Int} {k : Nat} (h : k < l.length) (h' : k < m.length) : l[k] ≠ m[k] → l ≠ m := by
  intro hne hs
  apply hne
  subst hs
  rfl
theorem pl_all {l m : List Int} {k : Nat} (hE : ∀ j (h : j < l.length) (h' : j < m.length), j < k → l[j] = m[j]) (hl : l.length = m.length) (h : ¬ k < l.length) : l = m :=
  List.ext_getElem hl (fun j h1 h2 => hE j h1 h2 (by omega))
theorem s43_ext {x y : S43} (h0 : x.f0 = y.f0) (h1 : x.f1 = y.f1) (h2 : x.f2 = y.f2) (h3 : x.f3 = y.f3) (h4 : x.f4 = y.f4) (h5 : x.f5 = y.f5) : x = y := by
  cases x; cases y; simp only at *; subst h0 h1 h2 h3 h4 h5; rfl
set_option maxRecDepth 100000 in
set_option maxHeartbeats 2000000 in
theorem same_calls (A0 : Option Addr) (c0 : Nat) (A1 : Option Addr) (c1 : Nat) (A2 : Option Addr) (c2 : Nat) (es : List S45) (ts : List ByteArray) (cs : List S43)
    (B0 : Option Addr) (d0 : Nat) (B1 : Option Addr) (d1 : Nat) (B2 : Option Addr) (d2 : Nat) (es' : List S45) (ts' : List ByteArray) (cs' : List S43) (w : World) (hI : ImgAt w A0 c0 A1 c1 A2 c2 es ts cs) (hJ : ImgAt w B0 d0 B1 d1 B2 d2 es' ts' cs')
    (hl0 : es.length = es'.length) (hl1 : ts.length = ts'.length) (hl2 : cs.length = cs'.length) (hz : Small cs) :
    Calls Try.prog 17 #[imgV A0 c0 A1 c1 A2 c2 es ts cs, imgV B0 d0 B1 d1 B2 d2 es' ts' cs'] w fun e w' => Says (SameSo es es' ts ts' cs cs') e ∧ Below w.heap.size w w' := by
  have HI := Aside0.mk hI
  have HZ := Aside0.mk hz
  clear hz
  have HJ := Aside0.mk hJ
  have m0 := hI.r0.2.1
  have m1 := hI.r1.2.1
  have m2 := hI.r2.2.1
  clear hI hJ
  have HT := Aside0.mk (TW.start w #[.slice A0 es.length c0, .slice A1 ts.length c1, .slice A2 cs.length c2] #[.slice B0 es.length d0, .slice B1 ts.length d1, .slice B2 cs.length d2])
  unfold imgV
  rw [← hl0, ← hl1, ← hl2]
  have L0 := Aside0.mk hl0
  have L1 := Aside0.mk hl1
  have L2 := Aside0.mk hl2
  clear hl0 hl1 hl2
  go_enter Try.func17, Try.ntmps17
  go_wp2
  go_loopw [5] (fun i wr => ∃ k : Nat, k ≤ es.length ∧ i = .int .i64 k ∧ Aside0 (∀ j (h : j < es.length) (h' : j < es'.length), j < k → es[j] = es'[j]) ∧ Aside0 (TW w wr [(w.heap.size + 1, #[.slice B0 es.length d0, .slice B1 ts.length d1, .slice B2 cs.length d2], 26), (w.heap.size, #[.slice A0 es.length c0, .slice A1 ts.length c1, .slice A2 cs.length c2], 26)]))
    (fun i _ => es.length - (intOf i).toNat)
  case atStart => exact ⟨0, Nat.zero_le _, rfl, ⟨fun j h h' hj => absurd hj (by omega)⟩, HT⟩
  case round =>
    clear HT
    obtain ⟨k, hk, rfl, HE, HT⟩ := hrel
    obtain ⟨⟨hc, hf⟩, hc', hf'⟩ := HT.out.two
    by_cases hlt : k < es.length
    · obtain ⟨ad, rfl, hx0, hx1⟩ := at_45 (HI.out.below HT.out.bel).r0 k hlt
      obtain ⟨bd, rfl, hy0, hy1⟩ := at_45 (HJ.out.below HT.out.bel).r0 k (by have := L0.out; omega)
      have HN := Aside0.mk (es_not (cs := cs) (cs' := cs') (ts := ts) (ts' := ts') hlt (by have := L0.out; omega : k < es'.length))
      have HS := Aside0.mk (es_step HE.out hlt (by have := L0.out; omega : k < es'.length))
      generalize es[k] = x at *
      have hlt_ : k < es'.length := by have := L0.out; omega
      generalize es'[k] = y at *
      clear hlt_
      by_cases hxy : x = y
      · have HE2 := Aside0.mk (HS.out hxy)
        subst hxy
        go_wp2
        go_quiet (fail)
        go_wp2
        go_roundw
        case rel => exact ⟨k + 1, by omega, by go_num, HE2, ⟨HT.out.drewN nq⟩⟩
        case measure => simp [intOf]; omega
      · have hno := Aside0.mk (HN.out hxy)
        by_cases h0 : x.f0 = y.f0
        · have h1 : (x.f1 == y.f1) = false := by rw [beq_eq_false_iff_ne]; intro e; apply hxy; cases x; cases y; simp_all
          have h1' : ¬ x.f1 = y.f1 := by simpa using h1
          have h0' : (x.f0.toList == y.f0.toList) = true := by rw [h0]; simp
          clear hxy h0
          go_wp2
          go_quiet (fail)
          go_wp2
          go_ret
          exact ⟨.no hno.out, (HT.out.drewN nq).bel⟩
        · have h0' : (x.f0.toList == y.f0.toList) = false := bytes_ne h0
          clear hxy h0
          go_wp2
          go_quiet (fail)
          go_wp2
          go_ret
          exact ⟨.no hno.out, (HT.out.drewN nq).bel⟩
    · have HES := Aside0.mk (es_all HE.out L0.out hlt)
      clear HE
      go_wp2
      go_loopw [6] (fun i wr => ∃ k : Nat, k ≤ ts.length ∧ i = .int .i64 k ∧ Aside0 (∀ j (h : j < ts.length) (h' : j < ts'.length), j < k → ts[j] = ts'[j]) ∧ Aside0 (TW w wr [(w.heap.size + 1, #[.slice B0 es.length d0, .slice B1 ts.length d1, .slice B2 cs.length d2], 26), (w.heap.size, #[.slice A0 es.length c0, .slice A1 ts.length c1, .slice A2 cs.length c2], 26)]))
        (fun i _ => ts.length - (intOf i).toNat)
      case atStart => exact ⟨0, Nat.zero_le _, rfl, ⟨fun j h h' hj => absurd hj (by omega)⟩, HT⟩
      case round =>
        clear HT hc hf hc' hf'
        obtain ⟨k, hk, rfl, HE, HT⟩ := hrel
        obtain ⟨⟨hc, hf⟩, hc', hf'⟩ := HT.out.two
        by_cases hlt2 : k < ts.length
        · obtain ⟨ad, rfl, hx0⟩ := at_string_nat (HI.out.below HT.out.bel).r1 k hlt2
          obtain ⟨bd, rfl, hy0⟩ := at_string_nat (HJ.out.below HT.out.bel).r1 k (by have := L1.out; omega)
          have HN := Aside0.mk (ts_not (cs := cs) (cs' := cs') (es := es) (es' := es') hlt2 (by have := L1.out; omega : k < ts'.length))
          have HS := Aside0.mk (ts_step HE.out hlt2 (by have := L1.out; omega : k < ts'.length))
          generalize ts[k] = x at *
          have hlt_ : k < ts'.length := by have := L1.out; omega
          generalize ts'[k] = y at *
          clear hlt_
          by_cases hxy : x = y
          · have HE2 := Aside0.mk (HS.out hxy)
            subst hxy
            go_wp2
            go_quiet (fail)
            go_wp2
            go_roundw
            case rel => exact ⟨k + 1, by omega, by go_num, HE2, ⟨HT.out.drewN nq⟩⟩
            case measure => simp [intOf]; omega
          · have hno := Aside0.mk (HN.out hxy)
            have h0' : (x.toList == y.toList) = false := bytes_ne hxy
            clear hxy
            go_wp2
            go_quiet (fail)
            go_wp2
            go_ret
            exact ⟨.no hno.out, (HT.out.drewN nq).bel⟩
        · have HTS := Aside0.mk (ts_all HE.out L1.out hlt2)
          clear HE
          go_wp2
          go_loopw [7] (fun i wr => ∃ k : Nat, k ≤ cs.length ∧ i = .int .i64 k ∧ Aside0 (∀ j (h : j < cs.length) (h' : j < cs'.length), j < k → cs[j] = cs'[j]) ∧ Aside0 (TW w wr [(w.heap.size + 1, #[.slice B0 es.length d0, .slice B1 ts.length d1, .slice B2 cs.length d2], 26), (w.heap.size, #[.slice A0 es.length c0, .slice A1 ts.length c1, .slice A2 cs.length c2], 26)]))
            (fun i _ => cs.length - (intOf i).toNat)
          case atStart => exact ⟨0, Nat.zero_le _, rfl, ⟨fun j h h' hj => absurd hj (by omega)⟩, HT⟩
          case round =>
            clear HT hc hf hc' hf'
            obtain ⟨k, hk, rfl, HE, HT⟩ := hrel
            obtain ⟨⟨hc, hf⟩, hc', hf'⟩ := HT.out.two
            by_cases hlt3 : k < cs.length
            · obtain ⟨ad, A3, n3, A4, n4, A5, n5, rfl, q0, q1, q2, q3, q4, q5, HR⟩ := at_43b HI.out HT.out.bel k hlt3
              have HT1 := Aside0.mk (EN.push HT.out #[.int .i64 cs[k].f0, .int .i64 cs[k].f1, .int .i64 cs[k].f2, .slice A3 cs[k].f3.length n3, .slice A4 cs[k].f4.length n4, .slice A5 cs[k].f5.length n5] 43 (by decide))
              obtain ⟨bd, B3, o3, B4, o4, B5, o5, rfl, p0, p1, p2, p3, p4, p5, HQ⟩ := at_43b HJ.out HT1.out.bel k (by have := L2.out; omega)
              have HN := Aside0.mk (cs_not (es := es) (es' := es') (ts := ts) (ts' := ts') hlt3 (by have := L2.out; omega : k < cs'.length))
              have HS := Aside0.mk (cs_step HE.out hlt3 (by have := L2.out; omega : k < cs'.length))
              obtain ⟨s3, s4, s5⟩ := HZ.out _ (List.getElem_mem hlt3)
              generalize cs[k] = x at *
              have hlt_ : k < cs'.length := by have := L2.out; omega
              generalize cs'[k] = y at *
              clear hlt_
              have HT2 := Aside0.mk (show TW w ((wr.alloc _).alloc _) [(wr.heap.size + 1, #[.int .i64 y.f0, .int .i64 y.f1, .int .i64 y.f2, .slice B3 y.f3.length o3, .slice B4 y.f4.length o4, .slice B5 y.f5.length o5], 43), (wr.heap.size, #[.int .i64 x.f0, .int .i64 x.f1, .int .i64 x.f2, .slice A3 x.f3.length n3, .slice A4 x.f4.length n4, .slice A5 x.f5.length n5], 43), (w.heap.size + 1, #[.slice B0 es.length d0, .slice B1 ts.length d1, .slice (some bd) cs.length d2], 26), (w.heap.size, #[.slice A0 es.length c0, .slice A1 ts.length c1, .slice (some ad) cs.length c2], 26)] from HT.out.push2 _ _)
              obtain ⟨g1, g1', g2, g2'⟩ := TW.three HT1.out
              clear HT HE HT1
              obtain ⟨⟨ka, ka'⟩, ⟨kb, kb'⟩, ⟨kc, kc'⟩, kd, kd'⟩ := HT2.out.four
              by_cases e0 : x.f0 = y.f0
              case neg =>
                have HNO := Aside0.mk e0
                have t0 : (x.f0 != y.f0) = true := by simpa using e0
                clear e0
                go_wp2
                go_ret
                exact ⟨.no (HN.out fun e_ => HNO.out (by rw [e_])), HT2.out.bel⟩
              have t0 : (x.f0 != y.f0) = false := by simpa using e0
              have E0 := Aside0.mk e0
              clear e0
              by_cases e1 : x.f1 = y.f1
              case neg =>
                have HNO := Aside0.mk e1
                have t1 : (x.f1 != y.f1) = true := by simpa using e1
                clear e1
                go_wp2
                go_ret
                exact ⟨.no (HN.out fun e_ => HNO.out (by rw [e_])), HT2.out.bel⟩
              have t1 : (x.f1 != y.f1) = false := by simpa using e1
              have E1 := Aside0.mk e1
              clear e1
              by_cases e2 : x.f2 = y.f2
              case neg =>
                have HNO := Aside0.mk e2
                have t2 : (x.f2 != y.f2) = true := by simpa using e2
                clear e2
                go_wp2
                go_ret
                exact ⟨.no (HN.out fun e_ => HNO.out (by rw [e_])), HT2.out.bel⟩
              have t2 : (x.f2 != y.f2) = false := by simpa using e2
              have E2 := Aside0.mk e2
              clear e2
              by_cases e3 : x.f3 = y.f3
              case neg =>
                have HNO := Aside0.mk e3
                clear e3
                go_wp2_with (go_at_call 39; refine (same_is A3 n3 x.f3 B3 o3 y.f3 _ false (Kd.C_below HR.out.2.1 HT2.out.bel) HR.out.1 (Kd.C_below HQ.out.2.1 HT2.out.bel) HQ.out.1 (by omega) (decide_eq_false HNO.out)).mono ?_; rintro e w3 ⟨rfl, dr3, hn3⟩; have HT3 := Aside0.mk (EN.at_ HT2.out dr3 hn3); clear HT2 hn3 ka ka' kb kb' kc kc' kd kd'; obtain ⟨⟨ka, ka'⟩, ⟨kb, kb'⟩, ⟨kc, kc'⟩, kd, kd'⟩ := TW.four HT3.out)
                go_ret
                exact ⟨.no (HN.out fun e_ => HNO.out (by rw [e_])), HT3.out.bel⟩
              have E3 := Aside0.mk e3
              clear e3
              by_cases e4 : x.f4 = y.f4
              case neg =>
                have HNO := Aside0.mk e4
                clear e4
                go_wp2_with (first
                  | (go_at_call 39; refine (same_is A3 n3 x.f3 B3 o3 y.f3 _ true (Kd.C_below HR.out.2.1 HT2.out.bel) HR.out.1 (Kd.C_below HQ.out.2.1 HT2.out.bel) HQ.out.1 (by omega) (decide_eq_true E3.out)).mono ?_; rintro e w3 ⟨rfl, dr3, hn3⟩; have HT3 := Aside0.mk (EN.at_ HT2.out dr3 hn3); clear HT2 hn3 ka ka' kb kb' kc kc' kd kd'; obtain ⟨⟨ka, ka'⟩, ⟨kb, kb'⟩, ⟨kc, kc'⟩, kd, kd'⟩ := TW.four HT3.out)
                  | (go_at_call 39; refine (same_is A4 n4 x.f4 B4 o4 y.f4 _ false (Kd.C_below HR.out.2.2.2.1 HT3.out.bel) HR.out.2.2.1 (Kd.C_below HQ.out.2.2.2.1 HT3.out.bel) HQ.out.2.2.1 (by omega) (decide_eq_false HNO.out)).mono ?_; rintro e w4 ⟨rfl, dr4, hn4⟩; have HT4 := Aside0.mk (EN.at_ HT3.out dr4 hn4); clear HT3 hn4 ka ka' kb kb' kc kc' kd kd'; obtain ⟨⟨ka, ka'⟩, ⟨kb, kb'⟩, ⟨kc, kc'⟩, kd, kd'⟩ := TW.four HT4.out))
                go_ret
                exact ⟨.no (HN.out fun e_ => HNO.out (by rw [e_])), HT4.out.bel⟩
              have E4 := Aside0.mk e4
              clear e4
              by_cases e5 : x.f5.length = y.f5.length
              case neg =>
                have HNO := Aside0.mk (fun e_ : x.f5 = y.f5 => e5 (by rw [e_]))
                have t5 : ((x.f5.length : Int) != y.f5.length) = true := by simp; omega
                have t5' : ¬ x.f5.length = y.f5.length := e5
                clear e5
                go_wp2_with (first
                  | (go_at_call 39; refine (same_is A3 n3 x.f3 B3 o3 y.f3 _ true (Kd.C_below HR.out.2.1 HT2.out.bel) HR.out.1 (Kd.C_below HQ.out.2.1 HT2.out.bel) HQ.out.1 (by omega) (decide_eq_true E3.out)).mono ?_; rintro e w3 ⟨rfl, dr3, hn3⟩; have HT3 := Aside0.mk (EN.at_ HT2.out dr3 hn3); clear HT2 hn3 ka ka' kb kb' kc kc' kd kd'; obtain ⟨⟨ka, ka'⟩, ⟨kb, kb'⟩, ⟨kc, kc'⟩, kd, kd'⟩ := TW.four HT3.out)
                  | (go_at_call 39; refine (same_is A4 n4 x.f4 B4 o4 y.f4 _ true (Kd.C_below HR.out.2.2.2.1 HT3.out.bel) HR.out.2.2.1 (Kd.C_below HQ.out.2.2.2.1 HT3.out.bel) HQ.out.2.2.1 (by omega) (decide_eq_true E4.out)).mono ?_; rintro e w4 ⟨rfl, dr4, hn4⟩; have HT4 := Aside0.mk (EN.at_ HT3.out dr4 hn4); clear HT3 hn4 ka ka' kb kb' kc kc' kd kd'; obtain ⟨⟨ka, ka'⟩, ⟨kb, kb'⟩, ⟨kc, kc'⟩, kd, kd'⟩ := TW.four HT4.out))
                go_ret
                exact ⟨.no (HN.out fun e_ => HNO.out (by rw [e_])), HT4.out.bel⟩
              have t5 : ((x.f5.length : Int) != y.f5.length) = false := by simp; omega
              have E5 := Aside0.mk e5
              clear e5
              go_wp2_with (first
                | (go_at_call 39; refine (same_is A3 n3 x.f3 B3 o3 y.f3 _ true (Kd.C_below HR.out.2.1 HT2.out.bel) HR.out.1 (Kd.C_below HQ.out.2.1 HT2.out.bel) HQ.out.1 (by omega) (decide_eq_true E3.out)).mono ?_; rintro e w3 ⟨rfl, dr3, hn3⟩; have HT3 := Aside0.mk (EN.at_ HT2.out dr3 hn3); clear HT2 hn3 ka ka' kb kb' kc kc' kd kd'; obtain ⟨⟨ka, ka'⟩, ⟨kb, kb'⟩, ⟨kc, kc'⟩, kd, kd'⟩ := TW.four HT3.out)
                | (go_at_call 39; refine (same_is A4 n4 x.f4 B4 o4 y.f4 _ true (Kd.C_below HR.out.2.2.2.1 HT3.out.bel) HR.out.2.2.1 (Kd.C_below HQ.out.2.2.2.1 HT3.out.bel) HQ.out.2.2.1 (by omega) (decide_eq_true E4.out)).mono ?_; rintro e w4 ⟨rfl, dr4, hn4⟩; have HT4 := Aside0.mk (EN.at_ HT3.out dr4 hn4); clear HT3 hn4 ka ka' kb kb' kc kc' kd kd'; obtain ⟨⟨ka, ka'⟩, ⟨kb, kb'⟩, ⟨kc, kc'⟩, kd, kd'⟩ := TW.four HT4.out))
              go_loopw [10] (fun i ws => ∃ p : Nat, p ≤ x.f5.length ∧ i = .int .i64 p ∧ Aside0 (∀ j (h : j < x.f5.length) (h' : j < y.f5.length), j < p → x.f5[j] = y.f5[j]) ∧ Aside0 (TW w ws [(wr.heap.size + 1, #[.int .i64 y.f0, .int .i64 y.f1, .int .i64 y.f2, .slice B3 y.f3.length o3, .slice B4 y.f4.length o4, .slice B5 y.f5.length o5], 43), (wr.heap.size, #[.int .i64 x.f0, .int .i64 x.f1, .int .i64 x.f2, .slice A3 x.f3.length n3, .slice A4 x.f4.length n4, .slice A5 x.f5.length n5], 43), (w.heap.size + 1, #[.slice B0 es.length d0, .slice B1 ts.length d1, .slice (some bd) cs.length d2], 26), (w.heap.size, #[.slice A0 es.length c0, .slice A1 ts.length c1, .slice (some ad) cs.length c2], 26)]))
                (fun i _ => x.f5.length - (intOf i).toNat)
              case atStart => exact ⟨0, Nat.zero_le _, rfl, ⟨fun j h h' hj => absurd hj (by omega)⟩, HT4⟩
              case round =>
                clear HT4 hc hf hc' hf' ka ka' kb kb' kc kc' kd kd' g1 g1' g2 g2' q0 q1 q2 q3 q4 q5 p0 p1 p2 p3 p4 p5
                obtain ⟨p, hp, rfl, HE, HT4⟩ := hrel
                obtain ⟨⟨ka, ka'⟩, ⟨kb, kb'⟩, ⟨kc, kc'⟩, kd, kd'⟩ := TW.four HT4.out
                by_cases hlt4 : p < x.f5.length
                · have hlt5 : p < y.f5.length := by have := E5.out; omega
                  obtain ⟨ad5, rfl, hx5⟩ := at_int_nat (Kd.C_below HR.out.2.2.2.2.2 HT4.out.bel) p hlt4
                  obtain ⟨bd5, rfl, hy5⟩ := at_int_nat (Kd.C_below HQ.out.2.2.2.2.2 HT4.out.bel) p hlt5
                  have HSP := Aside0.mk (pl_step HE.out hlt4 hlt5)
                  have HNP := Aside0.mk (pl_not hlt4 hlt5)
                  obtain ⟨u, hu⟩ : ∃ u, x.f5[p] = u := ⟨_, rfl⟩
                  obtain ⟨v, hv⟩ : ∃ v, y.f5[p] = v := ⟨_, rfl⟩
                  rw [hu] at hx5 HSP HNP
                  rw [hv] at hy5 HSP HNP
                  clear hu hv
                  by_cases huv : u = v
                  · have HE2 := Aside0.mk (HSP.out huv)
                    subst huv
                    go_wp2
                    go_quiet (fail)
                    go_wp2
                    go_roundw
                    case rel => exact ⟨p + 1, by omega, by go_num, HE2, ⟨HT4.out.drewN nq⟩⟩
                    case measure => simp [intOf]; omega
                  · have HNO := Aside0.mk (HNP.out huv)
                    have tu : (u != v) = true := by simpa using huv
                    have tu' : (u == v) = false := by simpa using huv
                    clear huv
                    go_wp2
                    go_quiet (fail)
                    go_wp2
                    go_ret
                    exact ⟨.no (HN.out fun e_ => HNO.out (by rw [e_])), (HT4.out.drewN nq).bel⟩
                · have HXY := Aside0.mk (HS.out (s43_ext E0.out E1.out E2.out E3.out E4.out (pl_all HE.out E5.out hlt4)))
                  go_wp2
                  go_roundw
                  case rel => exact ⟨k + 1, by omega, by go_num, HXY, ⟨HT4.out.pop.pop⟩⟩
                  case measure => simp [intOf]; omega
            · have HCS := Aside0.mk (cs_all HE.out L2.out hlt3)
              go_wp2
              go_ret
              exact ⟨.yes ⟨HES.out, HTS.out, HCS.out⟩, HT.out.bel⟩
end Go.Proofs.Ytmjafkhkoifopaa.C16
end
section
/- The reference: are two images the same? Any lengths. -/
namespace Go.Proofs.Ytmjafkhkoifopaa.C16
open Go.RowKit Go.Proofs.YtmjafkhkoifopaaW.PrintWords Go.Proofs.YtmjafkhkoifopaaW.PrintLast Go.Proofs.YtmjafkhkoifopaaW.PrintMore Go.Proofs.Ytmjafkhkoifopaa.PCodeDecodes
set_option linter.unusedVariables false
set_option linter.unusedSimpArgs false
set_option maxRecDepth 100000 in
theorem same_lens (A0 : Option Addr) (c0 : Nat) (A1 : Option Addr) (c1 : Nat) (A2 : Option Addr) (c2 : Nat) (es : List S45) (ts : List ByteArray) (cs : List S43)
    (B0 : Option Addr) (d0 : Nat) (B1 : Option Addr) (d1 : Nat) (B2 : Option Addr) (d2 : Nat) (es' : List S45) (ts' : List ByteArray) (cs' : List S43) (w : World)
    (hl : ¬ (es.length = es'.length ∧ ts.length = ts'.length ∧ cs.length = cs'.length)) :
    Calls Try.prog 17 #[imgV A0 c0 A1 c1 A2 c2 es ts cs, imgV B0 d0 B1 d1 B2 d2 es' ts' cs'] w fun e w' => Says (SameSo es es' ts ts' cs cs') e ∧ Below w.heap.size w w' := by
  have HL := Aside0.mk (show ¬ SameSo es es' ts ts' cs cs' from fun h => hl ⟨by rw [h.1], by rw [h.2.1], by rw [h.2.2]⟩)
  unfold imgV
  have HB := Aside0.mk (below2 w (.cells #[.slice A0 es.length c0, .slice A1 ts.length c1, .slice A2 cs.length c2] 26) (.cells #[.slice B0 es'.length d0, .slice B1 ts'.length d1, .slice B2 cs'.length d2] 26))
  generalize es.length = a0 at *
  generalize ts.length = a1 at *
  generalize cs.length = a2 at *
  generalize es'.length = b0 at *
  generalize ts'.length = b1 at *
  generalize cs'.length = b2 at *
  by_cases h0 : a0 = b0
  · subst h0
    by_cases h1 : a1 = b1
    · subst h1
      have h2 : ¬ a2 = b2 := fun e => hl ⟨rfl, rfl, e⟩
      have h2' : ((a2 : Int) != b2) = true := by simp; omega
      have h2'' : ((a2 : Int) == b2) = false := by simp; omega
      clear hl
      go_enter Try.func17, Try.ntmps17
      go_wp2
      go_ret
      exact ⟨.no HL.out, HB.out⟩
    · have h1' : ((a1 : Int) != b1) = true := by simp; omega
      have h1'' : ((a1 : Int) == b1) = false := by simp; omega
      clear hl
      go_enter Try.func17, Try.ntmps17
      go_wp2
      go_ret
      exact ⟨.no HL.out, HB.out⟩
  · have h0' : ((a0 : Int) != b0) = true := by simp; omega
    have h0'' : ((a0 : Int) == b0) = false := by simp; omega
    clear hl
    go_enter Try.func17, Try.ntmps17
    go_wp2
    go_ret
    exact ⟨.no HL.out, HB.out⟩
theorem same_any (A0 : Option Addr) (c0 : Nat) (A1 : Option Addr) (c1 : Nat) (A2 : Option Addr) (c2 : Nat) (es : List S45) (ts : List ByteArray) (cs : List S43)
    (B0 : Option Addr) (d0 : Nat) (B1 : Option Addr) (d1 : Nat) (B2 : Option Addr) (d2 : Nat) (es' : List S45) (ts' : List ByteArray) (cs' : List S43) (w : World) (hI : ImgAt w A0 c0 A1 c1 A2 c2 es ts cs) (hJ : ImgAt w B0 d0 B1 d1 B2 d2 es' ts' cs') (hz : Small cs) :
    Calls Try.prog 17 #[imgV A0 c0 A1 c1 A2 c2 es ts cs, imgV B0 d0 B1 d1 B2 d2 es' ts' cs'] w fun e w' => Says (SameSo es es' ts ts' cs cs') e ∧ Below w.heap.size w w' := by
  by_cases hl : es.length = es'.length ∧ ts.length = ts'.length ∧ cs.length = cs'.length
  · exact same_calls A0 c0 A1 c1 A2 c2 es ts cs B0 d0 B1 d1 B2 d2 es' ts' cs' w hI hJ hl.1 hl.2.1 hl.2.2 hz
  · exact same_lens A0 c0 A1 c1 A2 c2 es ts cs B0 d0 B1 d1 B2 d2 es' ts' cs' w hl
end Go.Proofs.Ytmjafkhkoifopaa.C16
end
