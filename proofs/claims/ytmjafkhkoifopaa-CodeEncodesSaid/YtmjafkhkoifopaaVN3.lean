import Derived.Test.YtmjafkhkoifopaaVM8
import Derived.Test.YtmjafkhkoifopaaVN1
section
/- The reference: may an instruction be? Its plain form is the program's. -/
namespace Go.Proofs.Ytmjafkhkoifopaa.C16
open Go.RowKit Go.Proofs.YtmjafkhkoifopaaW.PrintWords Go.Proofs.YtmjafkhkoifopaaW.PrintLast Go.Proofs.YtmjafkhkoifopaaW.PrintMore Go.Proofs.Ytmjafkhkoifopaa.PCodeDecodes
set_option linter.unusedVariables false
set_option linter.unusedSimpArgs false
theorem fieldsOf_opN {op : Int} (h : 0 ≤ fieldsOf op) : 1 ≤ op ∧ op ≤ 30 := by
  rcases op_cases op with ⟨n, hn, rfl⟩ | ⟨hf, _⟩
  · exact ⟨by omega, by omega⟩
  · omega
def mostOf (op : Int) : Int := if op = 17 then 4096 else if op = 11 then 8192 else 0
def numR (n op A B : Int) : Prop := (loOf op ≤ A ∧ A ≤ hiOf op n ∧ ¬ (op = 22 ∧ 11 < A ∧ A < 31)) ∧ 0 ≤ B ∧ B ≤ mostOf op
set_option maxHeartbeats 2000000 in
theorem numR_iff (n op A B : Int) (h0 : 0 ≤ fieldsOf op) : numR n op A B ↔ numberOk n op A B = true ∧ (fieldsOf op ≠ 3 → B = 0) := by
  have hop := fieldsOf_opN h0
  unfold numR
  by_cases h1 : op = 1
  · subst h1; simp [numberOk, inR, loOf, hiOf, mostOf, fieldsOf]; omega
  by_cases h2 : op = 2
  · subst h2; simp [numberOk, inR, loOf, hiOf, mostOf, fieldsOf]; omega
  by_cases h3 : op = 3
  · subst h3; simp [numberOk, inR, loOf, hiOf, mostOf, fieldsOf]; omega
  by_cases h4 : op = 4
  · subst h4; simp [numberOk, inR, loOf, hiOf, mostOf, fieldsOf]; omega
  by_cases h5 : op = 5
  · subst h5; simp [numberOk, inR, loOf, hiOf, mostOf, fieldsOf]; omega
  by_cases h7 : op = 7
  · subst h7; simp [numberOk, inR, loOf, hiOf, mostOf, fieldsOf]; omega
  by_cases h8 : op = 8
  · subst h8; simp [numberOk, inR, loOf, hiOf, mostOf, fieldsOf]; omega
  by_cases h10 : op = 10
  · subst h10; simp [numberOk, inR, loOf, hiOf, mostOf, fieldsOf]; omega
  by_cases h11 : op = 11
  · subst h11; simp [numberOk, inR, loOf, hiOf, mostOf, fieldsOf]
  by_cases h13 : op = 13
  · subst h13; simp [numberOk, inR, loOf, hiOf, mostOf, fieldsOf]; omega
  by_cases h14 : op = 14
  · subst h14; simp [numberOk, inR, loOf, hiOf, mostOf, fieldsOf]; omega
  by_cases h15 : op = 15
  · subst h15; simp [numberOk, inR, loOf, hiOf, mostOf, fieldsOf]; omega
  by_cases h16 : op = 16
  · subst h16; simp [numberOk, inR, loOf, hiOf, mostOf, fieldsOf]; omega
  by_cases h17 : op = 17
  · subst h17; simp [numberOk, inR, loOf, hiOf, mostOf, fieldsOf]
  by_cases h18 : op = 18
  · subst h18; simp [numberOk, inR, loOf, hiOf, mostOf, fieldsOf]; omega
  by_cases h19 : op = 19
  · subst h19; simp [numberOk, inR, loOf, hiOf, mostOf, fieldsOf]; omega
  by_cases h22 : op = 22
  · subst h22; simp [numberOk, inR, loOf, hiOf, mostOf, fieldsOf]; omega
  by_cases h23 : op = 23
  · subst h23; simp [numberOk, inR, loOf, hiOf, mostOf, fieldsOf]; omega
  have hf : fieldsOf op ≠ 3 := by
    have hall : ∀ n : Fin 31, fieldsOf (n.val : Int) = 3 → n.val = 11 ∨ n.val = 17 := by decide
    have e : ((op.toNat : Nat) : Int) = op := by omega
    have := hall ⟨op.toNat, by omega⟩
    simp only [e] at this
    intro h
    have := this h
    omega
  simp only [numberOk, loOf, hiOf, mostOf, h1, h2, h3, h4, h5, h7, h8, h10, h11, h13, h14, h15, h16, h17, h18, h19, h22, h23, if_false, or_false, false_and, not_false_eq_true, and_true, decide_eq_true_eq]
  constructor
  · intro h; exact ⟨by omega, fun _ => by omega⟩
  · intro h; have := h.2 hf; omega
theorem f20_iff (op : Int) : fieldsOf op = 20 ↔ op = 26 := by
  constructor
  · intro h
    have hop := fieldsOf_opN (op := op) (by omega)
    have hall : ∀ n : Fin 31, fieldsOf (n.val : Int) = 20 → n.val = 26 := by decide
    have e : ((op.toNat : Nat) : Int) = op := by omega
    have := hall ⟨op.toNat, by omega⟩
    simp only [e] at this
    have := this h
    omega
  · rintro rfl; rfl
theorem rises_all {l : List Int} (h : risesB l = true) : ∀ (d i : Nat), i + d < l.length → l.getD i 0 ≤ l.getD (i + d) 0 := by
  have h1 := of_decide_eq_true h
  intro d
  induction d with
  | zero => intro i hi; exact Int.le_refl _
  | succ d ih =>
    intro i hi
    have := ih i (by omega)
    have := h1 (i + d) (by omega)
    rw [show i + (d + 1) = i + d + 1 by omega]
    omega
theorem ts_range {l : List Int} (h : risesB l = true) : (l ≠ [] → 0 ≤ l.getD 0 0 ∧ l.getD (l.length - 1) 0 ≤ 199) ↔ ∀ x, x ∈ l → 0 ≤ x ∧ x ≤ 199 := by
  constructor
  · intro h1 x hx
    obtain ⟨j, hj, rfl⟩ := List.getElem_of_mem hx
    have h2 := h1 (by intro e; subst e; simp at hj)
    have e : l.getD j 0 = l[j] := by simp [List.getD_eq_getElem?_getD, hj]
    have a := rises_all h j 0 (by omega)
    have b := rises_all h (l.length - 1 - j) j (by omega)
    rw [Nat.zero_add] at a
    rw [show j + (l.length - 1 - j) = l.length - 1 by omega] at b
    omega
  · intro h1 hne
    have hl : 0 < l.length := List.length_pos_iff.2 hne
    have e0 : l.getD 0 0 = l[0] := by simp [List.getD_eq_getElem?_getD, hl]
    have hl1 : l.length - 1 < l.length := by omega
    have e1 : l.getD (l.length - 1) 0 = l[l.length - 1] := by rw [List.getD_eq_getElem?_getD, List.getElem?_eq_getElem hl1]; rfl
    rw [e0, e1]
    exact ⟨(h1 _ (List.getElem_mem _)).1, (h1 _ (List.getElem_mem _)).2⟩
def lenR (c : S43) : Prop := (fieldsOf c.f0 = 8 ∨ fieldsOf c.f0 = 9 → c.f5.length = 1) ∧ (fieldsOf c.f0 = 0 ∨ fieldsOf c.f0 = 1 ∨ fieldsOf c.f0 = 3 → c.f5.length = 0) ∧ (c.f0 = 26 → c.f5.length = c.f3.length + c.f4.length + 1)
def rIns (ts : List ByteArray) (cs : List S43) (k : Nat) (c : S43) : Prop :=
  0 ≤ fieldsOf c.f0 ∧ numR ts.length c.f0 c.f1 c.f2 ∧ (fieldsOf c.f0 ≠ 20 → c.f3 = [] ∧ c.f4 = []) ∧ (risesB c.f3 = true ∧ risesB c.f4 = true) ∧ (∀ x, x ∈ c.f4 → 0 ≤ x ∧ x ≤ 199) ∧
  (c.f0 = 16 → 1 ≤ c.f5.length ∧ c.f5.length ≤ 30) ∧ lenR c ∧ (∀ x, x ∈ c.f5 → 0 ≤ x ∧ x < cs.length) ∧ (c.f0 = 13 → k ≠ 0 ∧ (cs.getD (k - 1) z43).f0 = 12)
theorem rIns_iff (ts : List ByteArray) (cs : List S43) (k : Nat) (c : S43) : rIns ts cs k c ↔ insOk ts cs k c := by
  have ho : c.f5.any (outside cs.length) = false ↔ ∀ x, x ∈ c.f5 → 0 ≤ x ∧ x < cs.length := by
    rw [List.any_eq_false]
    constructor
    · intro h x hx
      have := h x hx
      simp [outside] at this
      omega
    · intro h x hx
      have := h x hx
      simp [outside]
      omega
  have hne : c.f5 ≠ [] ↔ 1 ≤ c.f5.length := ⟨fun h => List.length_pos_iff.2 h, fun h e => by rw [e] at h; simp at h⟩
  have he : c.f5 = [] ↔ c.f5.length = 0 := List.length_eq_zero_iff.symm
  constructor
  · rintro ⟨h1, h2, h3, ⟨h4, h5⟩, h6, h7, ⟨l1, l2, l3⟩, h8, h9⟩
    obtain ⟨n1, n2⟩ := (numR_iff _ _ _ _ h1).1 h2
    exact ⟨h1, n1, n2, h3, l1, fun h => he.2 (l2 h), fun h => ⟨hne.2 (h7 h).1, (h7 h).2⟩, fun h => ⟨l3 h, h4, h5, (ts_range h5).2 h6⟩, h9, ho.2 h8⟩
  · rintro ⟨h1, n1, n2, h3, l1, l2, h7, h26, h9, h8⟩
    have hr : risesB c.f3 = true ∧ risesB c.f4 = true ∧ ∀ x, x ∈ c.f4 → 0 ≤ x ∧ x ≤ 199 := by
      by_cases h : fieldsOf c.f0 = 20
      · obtain ⟨_, g1, g2, g3⟩ := h26 ((f20_iff _).1 h)
        exact ⟨g1, g2, (ts_range g2).1 g3⟩
      · obtain ⟨e1, e2⟩ := h3 h
        rw [e1, e2]
        exact ⟨by decide, by decide, fun x hx => absurd hx (by simp)⟩
    exact ⟨h1, (numR_iff _ _ _ _ h1).2 ⟨n1, n2⟩, h3, ⟨hr.1, hr.2.1⟩, hr.2.2, fun h => ⟨hne.1 (h7 h).1, (h7 h).2⟩, ⟨l1, fun h => he.1 (l2 h), fun h => (h26 h).1⟩, ho.1 h8, h9⟩
end Go.Proofs.Ytmjafkhkoifopaa.C16
end
section
/- The reference: may an instruction be? Its walk. -/
namespace Go.Proofs.Ytmjafkhkoifopaa.C16
open Go.RowKit Go.Proofs.YtmjafkhkoifopaaW.PrintWords Go.Proofs.YtmjafkhkoifopaaW.PrintLast Go.Proofs.YtmjafkhkoifopaaW.PrintMore Go.Proofs.Ytmjafkhkoifopaa.PCodeDecodes
set_option linter.unusedVariables false
set_option linter.unusedSimpArgs false
theorem bne_t {a b : Int} (h : a ≠ b) : (a != b) = true := by simpa using h
theorem bne_f {a b : Int} (h : a = b) : (a != b) = false := by simpa using h
theorem TW.ins (w : World) (x y : Array Value) : TW w ((w.alloc (.cells x 26)).alloc (.cells y 43)) [(w.heap.size + 1, y, 43), (w.heap.size, x, 26)] := by
  have h : TW w w [] := ⟨Kd.R_nil _ _ _ _ _, Below.refl _ _, fun p hp => absurd hp (by simp)⟩
  have h2 := EN.push (EN.push h x 26 (by decide)) y 43 (by decide)
  rwa [World.size_alloc] at h2
theorem TW.two2 {w0 w : World} {b1 b2 : Bx} (h : TW w0 w [b1, b2]) : ((∀ j, w.cell? ⟨b1.1, j, none⟩ = b1.2.1[j]?) ∧ (∀ j, w.frozen? ⟨b1.1, j, none⟩ = false)) ∧ (∀ j, w.cell? ⟨b2.1, j, none⟩ = b2.2.1[j]?) ∧ (∀ j, w.frozen? ⟨b2.1, j, none⟩ = false) :=
  ⟨h.cells b1 (by simp), h.cells b2 (by simp)⟩
theorem shape_ne {f : Int} (h : f = 0 ∨ f = 1 ∨ f = 3 ∨ f = 8 ∨ f = 9 ∨ f = 17 ∨ f = 20) : ((shapeOf f).toList == [63]) = false := by
  have e : ([63] : List UInt8) = (⟨#[63]⟩ : ByteArray).toList := by rw [ByteArray.toList_eq]
  rw [e]
  apply bytes_ne
  rcases h with rfl | rfl | rfl | rfl | rfl | rfl | rfl
  all_goals
    intro h
    have := congrArg (fun s => s.data.toList) h
    revert this
    decide
theorem el_step {l : List Int} {k : Nat} {P : Int → Prop} (hE : ∀ j (h : j < l.length), j < k → P l[j]) (h : k < l.length) : P l[k] → ∀ j (h : j < l.length), j < k + 1 → P l[j] := by
  intro e j h1 hj
  by_cases hjk : j < k
  · exact hE j h1 hjk
  · obtain rfl : j = k := by omega
    exact e
theorem el_all {l : List Int} {k : Nat} {P : Int → Prop} (hE : ∀ j (h : j < l.length), j < k → P l[j]) (h : ¬ k < l.length) : ∀ x, x ∈ l → P x := by
  intro x hx
  obtain ⟨j, hj, rfl⟩ := List.getElem_of_mem hx
  exact hE j hj (by omega)
end Go.Proofs.Ytmjafkhkoifopaa.C16
end
