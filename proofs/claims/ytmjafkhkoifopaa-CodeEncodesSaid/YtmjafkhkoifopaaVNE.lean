import Derived.Test.YtmjafkhkoifopaaVN5
import Derived.Test.YtmjafkhkoifopaaVN6
import Derived.Test.YtmjafkhkoifopaaVN7
import Derived.Test.YtmjafkhkoifopaaVN8
import Derived.Test.YtmjafkhkoifopaaVN9
import Derived.Test.YtmjafkhkoifopaaVNA
import Derived.Test.YtmjafkhkoifopaaVNB
import Derived.Test.YtmjafkhkoifopaaVNC
section
/- The reference: may an instruction be? All of them. -/
namespace Go.Proofs.Ytmjafkhkoifopaa.C16
open Go.RowKit Go.Proofs.YtmjafkhkoifopaaW.PrintWords Go.Proofs.YtmjafkhkoifopaaW.PrintLast Go.Proofs.YtmjafkhkoifopaaW.PrintMore Go.Proofs.Ytmjafkhkoifopaa.PCodeDecodes
set_option linter.unusedVariables false
set_option linter.unusedSimpArgs false
theorem fields17 {op : Int} (h : fieldsOf op = 17) : op = 16 := by
  have hop := fieldsOf_opN (op := op) (by omega)
  have hall : ∀ n : Fin 31, fieldsOf (n.val : Int) = 17 → n.val = 16 := by decide
  have e : ((op.toNat : Nat) : Int) = op := by omega
  have := hall ⟨op.toNat, by omega⟩
  simp only [e] at this
  have := this h
  omega
theorem fields3 {op : Int} (h : fieldsOf op = 3) : op = 11 ∨ op = 17 := by
  have hop := fieldsOf_opN (op := op) (by omega)
  have hall : ∀ n : Fin 31, fieldsOf (n.val : Int) = 3 → n.val = 11 ∨ n.val = 17 := by decide
  have e : ((op.toNat : Nat) : Int) = op := by omega
  have := hall ⟨op.toNat, by omega⟩
  simp only [e] at this
  have := this h
  omega
set_option maxRecDepth 100000 in
theorem rins_neg (A0 : Option Addr) (c0 : Nat) (A1 : Option Addr) (c1 : Nat) (A2 : Option Addr) (c2 : Nat) (es : List S45) (ts : List ByteArray) (cs : List S43) (at_ : Nat) (w : World) (hI : ImgAt w A0 c0 A1 c1 A2 c2 es ts cs) (hat : at_ < cs.length) (hf : fieldsOf cs[at_].f0 = -1) :
    Calls Try.prog 24 #[imgV A0 c0 A1 c1 A2 c2 es ts cs, .int .i64 at_] w fun e w' => Says (rIns ts cs at_ cs[at_]) e ∧ Below w.heap.size w w' := by
  have hm := hI.r2.2.1
  obtain ⟨ad, A3, c3, A4, c4, A5, c5, rfl, q0, q1, q2, q3, q4, q5, HR⟩ := at_43b hI (Below.refl w.heap.size w) at_ hat
  clear hI
  generalize hcc : cs[at_] = c at *
  clear hcc
  replace q0 := cell_alloc q0
  replace q1 := cell_alloc q1
  replace q2 := cell_alloc q2
  replace q3 := cell_alloc q3
  replace q4 := cell_alloc q4
  replace q5 := cell_alloc q5
  have HF := Aside0.mk hf
  clear hf
  have HT := Aside0.mk (TW.ins w #[.slice A0 es.length c0, .slice A1 ts.length c1, .slice (some ad) cs.length c2] #[.int .i64 c.f0, .int .i64 c.f1, .int .i64 c.f2, .slice A3 c.f3.length c3, .slice A4 c.f4.length c4, .slice A5 c.f5.length c5])
  obtain ⟨⟨k1, k2⟩, k3, k4⟩ := HT.out.two2
  have hq63 : ((shapeOf (-1)).toList == [63]) = true := by
    have e : ([63] : List UInt8) = (⟨#[63]⟩ : ByteArray).toList := by rw [ByteArray.toList_eq]
    rw [e, show shapeOf (-1) = ⟨#[63]⟩ from rfl]
    simp
  go_enter Try.func24, Try.ntmps24
  go_wp2_with (go_at_call 36; refine (shape_is c.f0 (-1) HF.out _).mono ?_; rintro e w1 ⟨rfl, d1, hd1⟩; have HT1 := Aside0.mk (EN.at_ HT.out d1 hd1); clear HT hd1 k1 k2 k3 k4; obtain ⟨⟨k1, k2⟩, k3, k4⟩ := TW.two2 HT1.out)
  go_ret
  exact ⟨.no fun h => by have := h.1; rw [HF.out] at this; omega, HT1.out.bel⟩
theorem rins_calls (A0 : Option Addr) (c0 : Nat) (A1 : Option Addr) (c1 : Nat) (A2 : Option Addr) (c2 : Nat) (es : List S45) (ts : List ByteArray) (cs : List S43) (at_ : Nat) (w : World) (hI : ImgAt w A0 c0 A1 c1 A2 c2 es ts cs) (hat : at_ < cs.length) (hz : Small cs) :
    Calls Try.prog 24 #[imgV A0 c0 A1 c1 A2 c2 es ts cs, .int .i64 at_] w fun e w' => Says (insOk ts cs at_ cs[at_]) e ∧ Below w.heap.size w w' := by
  rw [← rIns_iff]
  rcases fieldsOf_cases cs[at_].f0 with hf | hf | hf | hf | hf | hf | hf | hf
  · exact rins_neg A0 c0 A1 c1 A2 c2 es ts cs at_ w hI hat hf
  · exact rins_rest A0 c0 A1 c1 A2 c2 es ts cs at_ w hI hat hz (.inl hf) (by intro e; rw [e] at hf; cases hf) (by intro e; rw [e] at hf; cases hf)
  · by_cases h13 : cs[at_].f0 = 13
    · exact rins_o13 A0 c0 A1 c1 A2 c2 es ts cs at_ w hI hat hz h13
    · by_cases h22 : cs[at_].f0 = 22
      · by_cases hA : 11 < cs[at_].f1
        · exact rins_o22a A0 c0 A1 c1 A2 c2 es ts cs at_ w hI hat hz h22 hA
        · exact rins_o22b A0 c0 A1 c1 A2 c2 es ts cs at_ w hI hat hz h22 hA
      · exact rins_rest A0 c0 A1 c1 A2 c2 es ts cs at_ w hI hat hz (.inr hf) h13 h22
  · rcases fields3 hf with h | h
    · exact rins_o11 A0 c0 A1 c1 A2 c2 es ts cs at_ w hI hat hz h
    · exact rins_o17 A0 c0 A1 c1 A2 c2 es ts cs at_ w hI hat hz h
  · exact rins_one A0 c0 A1 c1 A2 c2 es ts cs at_ w hI hat hz (.inl hf)
  · exact rins_one A0 c0 A1 c1 A2 c2 es ts cs at_ w hI hat hz (.inr hf)
  · exact rins_o16 A0 c0 A1 c1 A2 c2 es ts cs at_ w hI hat hz (fields17 hf)
  · exact rins_o26 A0 c0 A1 c1 A2 c2 es ts cs at_ w hI hat hz ((f20_iff _).1 hf)
end Go.Proofs.Ytmjafkhkoifopaa.C16
end
section
/- The reference: may an image be? -/
namespace Go.Proofs.Ytmjafkhkoifopaa.C16
open Go.RowKit Go.Proofs.YtmjafkhkoifopaaW.PrintWords Go.Proofs.YtmjafkhkoifopaaW.PrintLast Go.Proofs.YtmjafkhkoifopaaW.PrintMore Go.Proofs.Ytmjafkhkoifopaa.PCodeDecodes
set_option linter.unusedVariables false
set_option linter.unusedSimpArgs false
theorem EN.below_ {w0 w w' : World} {bx : List Bx} {v : Value} {acc : List Int} (h : EN w0 w bx v acc) (hb : Below w.heap.size w w') : EN w0 w' bx v acc :=
  ⟨Kd.R_below h.row hb, below_then h.bel h.bel.size hb, fun p hp => ⟨blk_below (h.box p hp).1 hb, (h.box p hp).2⟩⟩
theorem TW.one (w : World) (x : Array Value) : TW w (w.alloc (.cells x 26)) [(w.heap.size, x, 26)] := by
  have h : TW w w [] := ⟨Kd.R_nil _ _ _ _ _, Below.refl _ _, fun p hp => absurd hp (by simp)⟩
  exact EN.push h x 26 (by decide)
theorem any_long {ts : List ByteArray} : ts.any tooLong = false ↔ ∀ j (h : j < ts.length), ¬ 4096 < ts[j].size := by
  rw [List.any_eq_false]
  constructor
  · intro h j hj
    have := h _ (List.getElem_mem hj)
    simp [tooLong] at this
    omega
  · intro h x hx
    obtain ⟨j, hj, rfl⟩ := List.getElem_of_mem hx
    have := h j hj
    simp [tooLong]
    omega
theorem tx_step {ts : List ByteArray} {k : Nat} (hE : ∀ j (h : j < ts.length), j < k → ¬ 4096 < ts[j].size) (h : k < ts.length) : ¬ 4096 < ts[k].size → ∀ j (h : j < ts.length), j < k + 1 → ¬ 4096 < ts[j].size := by
  intro e j h1 hj
  by_cases hjk : j < k
  · exact hE j h1 hjk
  · obtain rfl : j = k := by omega
    exact e
set_option maxRecDepth 100000 in
set_option maxHeartbeats 2000000 in
theorem rmay_calls (A0 : Option Addr) (c0 : Nat) (A1 : Option Addr) (c1 : Nat) (A2 : Option Addr) (c2 : Nat) (es : List S45) (ts : List ByteArray) (cs : List S43) (w : World) (hI : ImgAt w A0 c0 A1 c1 A2 c2 es ts cs) (hz : Small cs) :
    Calls Try.prog 12 #[imgV A0 c0 A1 c1 A2 c2 es ts cs] w fun e w' => Says (MayOk es ts cs) e ∧ Below w.heap.size w w' := by
  have m1 := hI.r1.2.1
  have m2 := hI.r2.2.1
  have HI := Aside0.mk hI
  have HZ := Aside0.mk hz
  clear hI hz
  obtain ⟨bE, hbE, hC⟩ := rexns_is es
  have HbE := Aside0.mk hbE
  have HC := Aside0.mk hC
  clear hbE hC
  have HT := Aside0.mk (TW.one w #[.slice A0 es.length c0, .slice A1 ts.length c1, .slice A2 cs.length c2])
  obtain ⟨k1, k2⟩ := HT.out.cells _ List.mem_cons_self
  cases bE with
  | false =>
    have HN := Aside0.mk (show ¬ MayOk es ts cs from fun h => absurd (HbE.out.2 h.1) (by simp))
    go_enter Try.func12, Try.ntmps12
    go_wp2_with (go_at_call 23; refine (HC.out _ _ _ (HI.out.below HT.out.bel).r0 HI.out.l0).mono ?_; rintro e w1 ⟨rfl, hb⟩; have HT1 := Aside0.mk (EN.below_ HT.out hb); clear hb HT k1 k2; obtain ⟨k1, k2⟩ := HT1.out.cells _ List.mem_cons_self)
    go_ret
    exact ⟨.no HN.out, HT1.out.bel⟩
  | true =>
    have HEX := Aside0.mk (HbE.out.1 rfl)
    clear HbE
    by_cases h1 : 1000 < ts.length
    · have h1' : (1000 : Int) < ts.length := by omega
      have HN := Aside0.mk (show ¬ MayOk es ts cs from fun h => by have := h.2.1; omega)
      go_enter Try.func12, Try.ntmps12
      go_wp2_with (go_at_call 23; refine (HC.out _ _ _ (HI.out.below HT.out.bel).r0 HI.out.l0).mono ?_; rintro e w1 ⟨rfl, hb⟩; have HT1 := Aside0.mk (EN.below_ HT.out hb); clear hb HT k1 k2; obtain ⟨k1, k2⟩ := HT1.out.cells _ List.mem_cons_self)
      go_ret
      exact ⟨.no HN.out, HT1.out.bel⟩
    have h1' : ¬ (1000 : Int) < ts.length := by omega
    by_cases h2 : cs.length < 1
    · obtain rfl : cs = [] := List.eq_nil_of_length_eq_zero (by omega)
      clear h2
      have HN := Aside0.mk (show ¬ MayOk es ts [] from fun h => h.2.2.1 rfl)
      go_enter Try.func12, Try.ntmps12
      go_wp2_with (go_at_call 23; refine (HC.out _ _ _ (HI.out.below HT.out.bel).r0 HI.out.l0).mono ?_; rintro e w1 ⟨rfl, hb⟩; have HT1 := Aside0.mk (EN.below_ HT.out hb); clear hb HT k1 k2; obtain ⟨k1, k2⟩ := HT1.out.cells _ List.mem_cons_self)
      go_ret
      exact ⟨.no HN.out, HT1.out.bel⟩
    have h2' : ¬ (cs.length : Int) < 1 := by omega
    have h2n : ¬ cs = [] := fun e => h2 (by rw [e]; decide)
    by_cases h3 : 8000 < cs.length
    · have h3' : (8000 : Int) < cs.length := by omega
      have HN := Aside0.mk (show ¬ MayOk es ts cs from fun h => by have := h.2.2.2.1; omega)
      go_enter Try.func12, Try.ntmps12
      go_wp2_with (go_at_call 23; refine (HC.out _ _ _ (HI.out.below HT.out.bel).r0 HI.out.l0).mono ?_; rintro e w1 ⟨rfl, hb⟩; have HT1 := Aside0.mk (EN.below_ HT.out hb); clear hb HT k1 k2; obtain ⟨k1, k2⟩ := HT1.out.cells _ List.mem_cons_self)
      go_ret
      exact ⟨.no HN.out, HT1.out.bel⟩
    have h3' : ¬ (8000 : Int) < cs.length := by omega
    have H123 : Aside0 (ts.length ≤ 1000 ∧ cs ≠ [] ∧ cs.length ≤ 8000) := ⟨by omega, h2n, by omega⟩
    go_enter Try.func12, Try.ntmps12
    go_wp2_with (go_at_call 23; refine (HC.out _ _ _ (HI.out.below HT.out.bel).r0 HI.out.l0).mono ?_; rintro e w1 ⟨rfl, hb⟩; have HT1 := Aside0.mk (EN.below_ HT.out hb); clear hb HT k1 k2; obtain ⟨k1, k2⟩ := HT1.out.cells _ List.mem_cons_self)
    go_loopw [3] (fun i wr => ∃ k : Nat, k ≤ ts.length ∧ i = .int .i64 k ∧ Aside0 (∀ j (h : j < ts.length), j < k → ¬ 4096 < ts[j].size) ∧ Aside0 (TW w wr [(w.heap.size, #[.slice A0 es.length c0, .slice A1 ts.length c1, .slice A2 cs.length c2], 26)]))
      (fun i _ => ts.length - (intOf i).toNat)
    case atStart => exact ⟨0, Nat.zero_le _, rfl, ⟨fun j h hj => absurd hj (by omega)⟩, HT1⟩
    case round =>
      clear HT1 k1 k2
      obtain ⟨k, hk, rfl, HE, HT1⟩ := hrel
      obtain ⟨k1, k2⟩ := HT1.out.cells _ List.mem_cons_self
      by_cases hlt : k < ts.length
      · obtain ⟨ad, rfl, hx0⟩ := at_string_nat (HI.out.below HT1.out.bel).r1 k hlt
        have HX := Aside0.mk (tx_step HE.out hlt)
        have HXN := Aside0.mk (fun (h : MayOk es ts cs) => any_long.1 h.2.2.2.2.1 k hlt)
        generalize ts[k] = x at *
        by_cases hbig : 4096 < x.size
        · have hbig' : (4096 : Int) < x.size := by omega
          go_wp2
          go_ret
          exact ⟨.no fun h => HXN.out h hbig, HT1.out.bel⟩
        · have hbig' : ¬ (4096 : Int) < x.size := by omega
          go_wp2
          go_roundw
          case rel => exact ⟨k + 1, by omega, by go_num, ⟨HX.out hbig⟩, HT1⟩
          case measure => simp [intOf]; omega
      · have HTX := Aside0.mk (show ts.any tooLong = false from any_long.2 (fun j h => HE.out j h (by omega)))
        clear HE
        go_wp2
        go_loopw [4] (fun i wr => ∃ k : Nat, k ≤ cs.length ∧ i = .int .i64 k ∧ Aside0 (∀ j (h : j < cs.length), j < k → insOk ts cs j cs[j]) ∧ Aside0 (TW w wr [(w.heap.size, #[.slice A0 es.length c0, .slice A1 ts.length c1, .slice A2 cs.length c2], 26)]))
          (fun i _ => cs.length - (intOf i).toNat)
        case atStart => exact ⟨0, Nat.zero_le _, rfl, ⟨fun j h hj => absurd hj (by omega)⟩, HT1⟩
        case round =>
          clear HT1 k1 k2
          obtain ⟨k, hk, rfl, HE, HT1⟩ := hrel
          obtain ⟨k1, k2⟩ := HT1.out.cells _ List.mem_cons_self
          by_cases hlt2 : k < cs.length
          · obtain ⟨bI, hbI⟩ : ∃ b : Bool, b = true ↔ insOk ts cs k cs[k] := bool_of _
            cases bI with
            | false =>
              have HNI := Aside0.mk (show ¬ insOk ts cs k cs[k] from fun h => absurd (hbI.2 h) (by simp))
              clear hbI
              go_wp2_with (go_at_call 24; refine (rins_calls A0 c0 A1 c1 A2 c2 es ts cs k _ (HI.out.below HT1.out.bel) hlt2 HZ.out).mono ?_; rintro e w2 ⟨hs, hb⟩; obtain rfl := hs.is (b := false) ⟨fun e_ => absurd e_ (by simp), fun h_ => absurd h_ HNI.out⟩; have HT2 := Aside0.mk (EN.below_ HT1.out hb); clear hs hb)
              go_ret
              exact ⟨.no fun h => HNI.out (h.2.2.2.2.2 k hlt2), HT2.out.bel⟩
            | true =>
              have HYI := Aside0.mk (hbI.1 rfl)
              clear hbI
              go_wp2_with (go_at_call 24; refine (rins_calls A0 c0 A1 c1 A2 c2 es ts cs k _ (HI.out.below HT1.out.bel) hlt2 HZ.out).mono ?_; rintro e w2 ⟨hs, hb⟩; obtain rfl := hs.is (b := true) ⟨fun _ => HYI.out, fun _ => rfl⟩; have HT2 := Aside0.mk (EN.below_ HT1.out hb); clear hs hb)
              go_roundw
              case rel =>
                refine ⟨k + 1, by omega, by go_num, ⟨fun j h hj => ?_⟩, HT2⟩
                by_cases hjk : j < k
                · exact HE.out j h hjk
                · obtain rfl : j = k := by omega
                  exact HYI.out
              case measure => simp [intOf]; omega
          · go_wp2
            go_ret
            exact ⟨.yes ⟨HEX.out, H123.out.1, H123.out.2.1, H123.out.2.2, HTX.out, fun j h => HE.out j h (by omega)⟩, HT1.out.bel⟩
end Go.Proofs.Ytmjafkhkoifopaa.C16
end
