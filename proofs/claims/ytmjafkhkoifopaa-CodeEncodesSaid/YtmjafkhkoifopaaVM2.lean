import Derived.Test.YtmjafkhkoifopaaVM1
import Derived.Deep.RegionLaw
import Derived.Deep.RegionWith
import Derived.Laws.BitsLemmas
section
/- code.ins: may an instruction be, where it stands? -/
namespace Go.Proofs.Ytmjafkhkoifopaa.C16
open Go.RowKit Go.Proofs.YtmjafkhkoifopaaW.PrintWords Go.Proofs.YtmjafkhkoifopaaW.PrintLast Go.Proofs.YtmjafkhkoifopaaW.PrintMore Go.Proofs.Ytmjafkhkoifopaa.PCodeDecodes
set_option linter.unusedVariables false
set_option linter.unusedSimpArgs false

theorem fields_is (op f : Int) (h : fieldsOf op = f) (w : World) : Calls Try.prog 28 #[.int .i64 op] w fun e w' => e = .returned (.int .i64 f) ∧ Drawn0 w w' :=
  (fields_calls op w).mono fun e w' ⟨h1, h2⟩ => ⟨by rw [h1, h], h2⟩
theorem rises_is (A : Option Addr) (c : Nat) (l : List Int) (b : Bool) (h : risesB l = b) (w : World) (hr : Kd.C (Kd.int .i64) w A l.length l) (hc : l.length ≤ c) (hl : l.length ≤ 9223372036854775806) :
    Calls Try.prog 42 #[.slice A l.length c] w fun e w' => e = .returned (.bool b) ∧ Drawn0 w w' :=
  code_rises.calls _ A c l b w hr hc (by rw [rises_f l hl, h])

/-- An image that came in: its three rows. -/
structure ImgAt (w : World) (A0 : Option Addr) (c0 : Nat) (A1 : Option Addr) (c1 : Nat) (A2 : Option Addr) (c2 : Nat) (es : List S45) (ts : List ByteArray) (cs : List S43) : Prop where
  r0 : Kd.C k45 w A0 es.length es
  l0 : es.length ≤ c0
  r1 : Kd.C Kd.string w A1 ts.length ts
  l1 : ts.length ≤ c1
  r2 : Kd.C k43 w A2 cs.length cs
  l2 : cs.length ≤ c2
theorem ImgAt.below {w w1 : World} {A0 : Option Addr} {c0 : Nat} {A1 : Option Addr} {c1 : Nat} {A2 : Option Addr} {c2 : Nat} {es : List S45} {ts : List ByteArray} {cs : List S43} (h : ImgAt w A0 c0 A1 c1 A2 c2 es ts cs) (hb : Below w.heap.size w w1) : ImgAt w1 A0 c0 A1 c1 A2 c2 es ts cs :=
  ⟨Kd.C_below h.r0 hb, h.l0, Kd.C_below h.r1 hb, h.l1, Kd.C_below h.r2 hb, h.l2⟩
abbrev imgV (A0 : Option Addr) (c0 : Nat) (A1 : Option Addr) (c1 : Nat) (A2 : Option Addr) (c2 : Nat) (es : List S45) (ts : List ByteArray) (cs : List S43) : Value := .agg #[.slice A0 es.length c0, .slice A1 ts.length c1, .slice A2 cs.length c2]

theorem at_43 {w : World} {A : Option Addr} {n : Nat} {xs : List S43} (h : Kd.C k43 w A n xs) (k : Nat) (hk : k < xs.length) :
    ∃ ad A3 c3 A4 c4 A5 c5, A = some ad ∧ w.cell? (ad.add (k * 6)) = some (.int .i64 xs[k].f0) ∧ w.cell? ⟨(ad.add (k * 6)).block, (ad.add (k * 6)).off + 1, none⟩ = some (.int .i64 xs[k].f1) ∧ w.cell? ⟨(ad.add (k * 6)).block, (ad.add (k * 6)).off + 2, none⟩ = some (.int .i64 xs[k].f2) ∧
      w.cell? ⟨(ad.add (k * 6)).block, (ad.add (k * 6)).off + 3, none⟩ = some (.slice A3 xs[k].f3.length c3) ∧ w.cell? ⟨(ad.add (k * 6)).block, (ad.add (k * 6)).off + 4, none⟩ = some (.slice A4 xs[k].f4.length c4) ∧ w.cell? ⟨(ad.add (k * 6)).block, (ad.add (k * 6)).off + 5, none⟩ = some (.slice A5 xs[k].f5.length c5) ∧
      xs[k].f3.length ≤ c3 ∧ Kd.C (Kd.int .i64) w A3 xs[k].f3.length xs[k].f3 ∧ xs[k].f4.length ≤ c4 ∧ Kd.C (Kd.int .i64) w A4 xs[k].f4.length xs[k].f4 ∧ xs[k].f5.length ≤ c5 ∧ Kd.C (Kd.int .i64) w A5 xs[k].f5.length xs[k].f5 := by
  obtain ⟨ad, c, e, _, hK, hc0⟩ := Kd.C_get h z43 k (by omega) (by have := h.1; omega)
  have hx : xs.getD ((k : Int).toNat) z43 = xs[k] := by simp [List.getD_eq_getElem?_getD, hk]
  rw [hx] at hK
  obtain ⟨A3, c3, A4, c4, A5, c5, rfl, r⟩ := k43_open hK
  have hc : ∀ j u, [Value.int .i64 xs[k].f0, .int .i64 xs[k].f1, .int .i64 xs[k].f2, .slice A3 xs[k].f3.length c3, .slice A4 xs[k].f4.length c4, .slice A5 xs[k].f5.length c5][j]? = some u → w.cell? (ad.add (k * 6 + j)) = some u := hc0
  refine ⟨ad, A3, c3, A4, c4, A5, c5, e, hc 0 _ rfl, ?_, ?_, ?_, ?_, ?_, r⟩
  · rw [← add_field _ _ 1 (by omega)]; exact hc 1 _ rfl
  · rw [← add_field _ _ 2 (by omega)]; exact hc 2 _ rfl
  · rw [← add_field _ _ 3 (by omega)]; exact hc 3 _ rfl
  · rw [← add_field _ _ 4 (by omega)]; exact hc 4 _ rfl
  · rw [← add_field _ _ 5 (by omega)]; exact hc 5 _ rfl

theorem cell_alloc {w : World} {a : Addr} {v : Value} (h : w.cell? a = some v) : ∀ o, (w.alloc o).cell? a = some v := fun o => pw_cell_below (below_alloc (Below.refl _ _) o) h
theorem boxes {w w2 : World} {n : Nat} {x y : Array Value} (hb : Below (((w.alloc (.cells x 26)).alloc (.cells y 43)).drewN n).heap.size (((w.alloc (.cells x 26)).alloc (.cells y 43)).drewN n) w2) :
    (∀ j, w2.cell? ⟨w.heap.size, j, none⟩ = x[j]?) ∧ (∀ j, w2.cell? ⟨w.heap.size + 1, j, none⟩ = y[j]?) ∧ Below w.heap.size w w2 ∧ w.heap.size + 1 < w2.heap.size := by
  have hs := hb.size
  simp at hs
  refine ⟨fun j => ?_, fun j => ?_, ?_, by omega⟩
  · refine (hb.cell (p := ⟨w.heap.size, j, none⟩) (by simp; omega)).trans ?_
    simp [go_sem]
  · refine (hb.cell (p := ⟨w.heap.size + 1, j, none⟩) (by simp)).trans ?_
    simp [go_sem]
  · exact below_then (pw_below_drewN (below_alloc (below_alloc (Below.refl _ _) _) _) n) (by simp; omega) hb
theorem number_is (n : Int) (op A B : Int) (b : Bool) (h : numberOk n op A B = b) {w : World} {A0 : Option Addr} {c0 : Nat} {A1 : Option Addr} {c1 : Nat} {A2 : Option Addr} {c2 : Nat} {es : List S45} {ts : List ByteArray} {cs : List S43} (hI : ImgAt w A0 c0 A1 c1 A2 c2 es ts cs) (hn : n = ts.length) (ht : (ts.length : Int) ≤ 9223372036854775807)
    {A3 : Option Addr} {c3 : Nat} {l3 : List Int} {A4 : Option Addr} {c4 : Nat} {l4 : List Int} {A5 : Option Addr} {c5 : Nat} {l5 : List Int} (k3 : Kd.C (Kd.int .i64) w A3 l3.length l3) (r3 : l3.length ≤ c3) (k4 : Kd.C (Kd.int .i64) w A4 l4.length l4) (r4 : l4.length ≤ c4) (k5 : Kd.C (Kd.int .i64) w A5 l5.length l5) (r5 : l5.length ≤ c5) :
    Calls Try.prog 41 #[.agg #[.slice A0 es.length c0, .slice A1 ts.length c1, .slice A2 cs.length c2], .agg #[.int .i64 op, .int .i64 A, .int .i64 B, .slice A3 l3.length c3, .slice A4 l4.length c4, .slice A5 l5.length c5]] w fun e w' => e = .returned (.bool b) ∧ Below w.heap.size w w' :=
  code_number.calls 4 A0 c0 es A1 c1 ts A2 c2 cs op A B A3 c3 l3 A4 c4 l4 A5 c5 l5 b w hI.r0 hI.l0 hI.r1 hI.l1 hI.r2 hI.l2 k3 r3 k4 r4 k5 r5 (by rw [number_f _ _ _ _ _ _ _ _ _ ht, ← hn, h])

/-- May an instruction c be, at place k of cs? -/
def insOk (ts : List ByteArray) (cs : List S43) (k : Nat) (c : S43) : Prop :=
  0 ≤ fieldsOf c.f0 ∧ numberOk ts.length c.f0 c.f1 c.f2 = true ∧ (fieldsOf c.f0 ≠ 3 → c.f2 = 0) ∧ (fieldsOf c.f0 ≠ 20 → c.f3 = [] ∧ c.f4 = []) ∧
  (fieldsOf c.f0 = 8 ∨ fieldsOf c.f0 = 9 → c.f5.length = 1) ∧ (fieldsOf c.f0 = 0 ∨ fieldsOf c.f0 = 1 ∨ fieldsOf c.f0 = 3 → c.f5 = []) ∧
  (c.f0 = 16 → c.f5 ≠ [] ∧ c.f5.length ≤ 30) ∧
  (c.f0 = 26 → c.f5.length = c.f3.length + c.f4.length + 1 ∧ risesB c.f3 = true ∧ risesB c.f4 = true ∧ (c.f4 ≠ [] → 0 ≤ c.f4.getD 0 0 ∧ c.f4.getD (c.f4.length - 1) 0 ≤ 199)) ∧
  (c.f0 = 13 → k ≠ 0 ∧ (cs.getD (k - 1) z43).f0 = 12) ∧ c.f5.any (outside cs.length) = false

set_option maxRecDepth 100000 in
theorem ins_none (A0 : Option Addr) (c0 : Nat) (A1 : Option Addr) (c1 : Nat) (A2 : Option Addr) (c2 : Nat) (es : List S45) (ts : List ByteArray) (cs : List S43) (at_ : Nat) (w : World) (hI : ImgAt w A0 c0 A1 c1 A2 c2 es ts cs) (hat : at_ < cs.length) (hf : fieldsOf cs[at_].f0 = -1) :
    Calls Try.prog 22 #[imgV A0 c0 A1 c1 A2 c2 es ts cs, .int .i64 at_] w fun e w' => e = .returned (.bool false) ∧ Below w.heap.size w w' := by
  have HI := Aside0.mk hI
  obtain ⟨ad, A3, c3, A4, c4, A5, c5, rfl, q0, q1, q2, q3, q4, q5, r3, k3, r4, k4, r5, k5⟩ := at_43 hI.r2 at_ hat
  have hm := hI.r2.2.1
  have Hf := Aside0.mk hf
  have K3 := Aside0.mk k3
  have K4 := Aside0.mk k4
  have K5 := Aside0.mk k5
  have m3 := k3.2.1
  have m4 := k4.2.1
  have m5 := k5.2.1
  clear hI hf k3 k4 k5
  generalize hcc : cs[at_] = c at *
  clear hcc
  replace q0 := cell_alloc q0
  replace q1 := cell_alloc q1
  replace q2 := cell_alloc q2
  replace q3 := cell_alloc q3
  replace q4 := cell_alloc q4
  replace q5 := cell_alloc q5
  go_enter Try.func22, Try.ntmps22
  go_wp2_with (go_at_call 28; refine (fields_is _ _ Hf.out _).mono ?_; rintro e w' ⟨rfl, ⟨n1, rfl⟩⟩)
  go_ret
  exact ⟨rfl, pw_below_drewN (below_alloc (below_alloc (Below.refl _ _) _) _) _⟩

set_option maxRecDepth 100000 in
theorem ins_number (A0 : Option Addr) (c0 : Nat) (A1 : Option Addr) (c1 : Nat) (A2 : Option Addr) (c2 : Nat) (es : List S45) (ts : List ByteArray) (cs : List S43) (at_ : Nat) (w : World) (hI : ImgAt w A0 c0 A1 c1 A2 c2 es ts cs) (hat : at_ < cs.length) (f : Int) (hf0 : 0 ≤ f) (hf : fieldsOf cs[at_].f0 = f) (hn : numberOk ts.length cs[at_].f0 cs[at_].f1 cs[at_].f2 = false) :
    Calls Try.prog 22 #[imgV A0 c0 A1 c1 A2 c2 es ts cs, .int .i64 at_] w fun e w' => e = .returned (.bool false) ∧ Below w.heap.size w w' := by
  have hnl := hI.r1.2.1
  have HI := Aside0.mk hI
  obtain ⟨ad, A3, c3, A4, c4, A5, c5, rfl, q0, q1, q2, q3, q4, q5, r3, k3, r4, k4, r5, k5⟩ := at_43 hI.r2 at_ hat
  have hm := hI.r2.2.1
  have Hf := Aside0.mk hf
  have Hn := Aside0.mk hn
  clear hn
  have K3 := Aside0.mk k3
  have K4 := Aside0.mk k4
  have K5 := Aside0.mk k5
  have m3 := k3.2.1
  have m4 := k4.2.1
  have m5 := k5.2.1
  clear hI hf k3 k4 k5
  generalize hcc : cs[at_] = c at *
  clear hcc
  replace q0 := cell_alloc q0
  replace q1 := cell_alloc q1
  replace q2 := cell_alloc q2
  replace q3 := cell_alloc q3
  replace q4 := cell_alloc q4
  replace q5 := cell_alloc q5
  have hf1 : decide (f < 0) = false := decide_eq_false (by omega)
  go_enter Try.func22, Try.ntmps22
  go_wp2_with (first
    | (go_at_call 28; refine (fields_is _ _ Hf.out _).mono ?_; rintro e w' ⟨rfl, ⟨n1, rfl⟩⟩)
    | (go_at_call 41; refine (number_is _ _ _ _ false Hn.out (HI.out.below ?b) rfl (by omega) (Kd.C_below K3.out ?b) r3 (Kd.C_below K4.out ?b) r4 (Kd.C_below K5.out ?b) r5).mono ?_; (case b => exact pw_below_drewN (below_alloc (below_alloc (Below.refl _ _) _) _) _); rintro e w2 ⟨rfl, hb2⟩; obtain ⟨g0, g1, g2, g3⟩ := boxes hb2; clear hb2))
  go_ret
  exact ⟨rfl, by repeat (first | exact g2 | apply below_alloc | apply pw_below_drewN)⟩

/-- It tells whether a thing is so. -/
def Says (b : Prop) (e : Ending) : Prop := (e = .returned (.bool true) ∧ b) ∨ (e = .returned (.bool false) ∧ ¬ b)
/-- Rows of which no sum of two lengths is too great. -/
def Sized (cs : List S43) : Prop := ∀ c, c ∈ cs → c.f3.length ≤ 140737488355328 ∧ c.f4.length ≤ 140737488355328 ∧ c.f5.length ≤ 140737488355328
theorem op_of_17 {op : Int} (h : fieldsOf op = 17) : op = 16 := by
  by_cases e : op = 16
  · exact e
  exfalso
  by_cases e1 : op = 1
  · subst e1; exact absurd h (by decide)
  by_cases e2 : op = 2
  · subst e2; exact absurd h (by decide)
  by_cases e3 : op = 3
  · subst e3; exact absurd h (by decide)
  by_cases e4 : op = 4
  · subst e4; exact absurd h (by decide)
  by_cases e5 : op = 5
  · subst e5; exact absurd h (by decide)
  by_cases e6 : op = 6
  · subst e6; exact absurd h (by decide)
  by_cases e7 : op = 7
  · subst e7; exact absurd h (by decide)
  by_cases e8 : op = 8
  · subst e8; exact absurd h (by decide)
  by_cases e9 : op = 9
  · subst e9; exact absurd h (by decide)
  by_cases e10 : op = 10
  · subst e10; exact absurd h (by decide)
  by_cases e11 : op = 11
  · subst e11; exact absurd h (by decide)
  by_cases e12 : op = 12
  · subst e12; exact absurd h (by decide)
  by_cases e13 : op = 13
  · subst e13; exact absurd h (by decide)
  by_cases e14 : op = 14
  · subst e14; exact absurd h (by decide)
  by_cases e15 : op = 15
  · subst e15; exact absurd h (by decide)
  by_cases e17 : op = 17
  · subst e17; exact absurd h (by decide)
  by_cases e18 : op = 18
  · subst e18; exact absurd h (by decide)
  by_cases e19 : op = 19
  · subst e19; exact absurd h (by decide)
  by_cases e20 : op = 20
  · subst e20; exact absurd h (by decide)
  by_cases e21 : op = 21
  · subst e21; exact absurd h (by decide)
  by_cases e22 : op = 22
  · subst e22; exact absurd h (by decide)
  by_cases e23 : op = 23
  · subst e23; exact absurd h (by decide)
  by_cases e24 : op = 24
  · subst e24; exact absurd h (by decide)
  by_cases e25 : op = 25
  · subst e25; exact absurd h (by decide)
  by_cases e26 : op = 26
  · subst e26; exact absurd h (by decide)
  by_cases e27 : op = 27
  · subst e27; exact absurd h (by decide)
  by_cases e28 : op = 28
  · subst e28; exact absurd h (by decide)
  by_cases e29 : op = 29
  · subst e29; exact absurd h (by decide)
  by_cases e30 : op = 30
  · subst e30; exact absurd h (by decide)
  simp only [fieldsOf, e, e1, e2, e3, e4, e5, e6, e7, e8, e9, e10, e11, e12, e13, e14, e15, e17, e18, e19, e20, e21, e22, e23, e24, e25, e26, e27, e28, e29, e30, if_false] at h
  omega
theorem op_of_20 {op : Int} (h : fieldsOf op = 20) : op = 26 := by
  by_cases e : op = 26
  · exact e
  exfalso
  by_cases e1 : op = 1
  · subst e1; exact absurd h (by decide)
  by_cases e2 : op = 2
  · subst e2; exact absurd h (by decide)
  by_cases e3 : op = 3
  · subst e3; exact absurd h (by decide)
  by_cases e4 : op = 4
  · subst e4; exact absurd h (by decide)
  by_cases e5 : op = 5
  · subst e5; exact absurd h (by decide)
  by_cases e6 : op = 6
  · subst e6; exact absurd h (by decide)
  by_cases e7 : op = 7
  · subst e7; exact absurd h (by decide)
  by_cases e8 : op = 8
  · subst e8; exact absurd h (by decide)
  by_cases e9 : op = 9
  · subst e9; exact absurd h (by decide)
  by_cases e10 : op = 10
  · subst e10; exact absurd h (by decide)
  by_cases e11 : op = 11
  · subst e11; exact absurd h (by decide)
  by_cases e12 : op = 12
  · subst e12; exact absurd h (by decide)
  by_cases e13 : op = 13
  · subst e13; exact absurd h (by decide)
  by_cases e14 : op = 14
  · subst e14; exact absurd h (by decide)
  by_cases e15 : op = 15
  · subst e15; exact absurd h (by decide)
  by_cases e16 : op = 16
  · subst e16; exact absurd h (by decide)
  by_cases e17 : op = 17
  · subst e17; exact absurd h (by decide)
  by_cases e18 : op = 18
  · subst e18; exact absurd h (by decide)
  by_cases e19 : op = 19
  · subst e19; exact absurd h (by decide)
  by_cases e20 : op = 20
  · subst e20; exact absurd h (by decide)
  by_cases e21 : op = 21
  · subst e21; exact absurd h (by decide)
  by_cases e22 : op = 22
  · subst e22; exact absurd h (by decide)
  by_cases e23 : op = 23
  · subst e23; exact absurd h (by decide)
  by_cases e24 : op = 24
  · subst e24; exact absurd h (by decide)
  by_cases e25 : op = 25
  · subst e25; exact absurd h (by decide)
  by_cases e27 : op = 27
  · subst e27; exact absurd h (by decide)
  by_cases e28 : op = 28
  · subst e28; exact absurd h (by decide)
  by_cases e29 : op = 29
  · subst e29; exact absurd h (by decide)
  by_cases e30 : op = 30
  · subst e30; exact absurd h (by decide)
  simp only [fieldsOf, e, e1, e2, e3, e4, e5, e6, e7, e8, e9, e10, e11, e12, e13, e14, e15, e16, e17, e18, e19, e20, e21, e22, e23, e24, e25, e27, e28, e29, e30, if_false] at h
  omega
set_option maxRecDepth 100000 in
set_option maxHeartbeats 1000000 in
theorem ins_f8 (A0 : Option Addr) (c0 : Nat) (A1 : Option Addr) (c1 : Nat) (A2 : Option Addr) (c2 : Nat) (es : List S45) (ts : List ByteArray) (cs : List S43) (at_ : Nat) (w : World) (hI : ImgAt w A0 c0 A1 c1 A2 c2 es ts cs) (hat : at_ < cs.length) (hz : Sized cs) (hn : numberOk ts.length cs[at_].f0 cs[at_].f1 cs[at_].f2 = true) (hf : fieldsOf cs[at_].f0 = 8) :
    Calls Try.prog 22 #[imgV A0 c0 A1 c1 A2 c2 es ts cs, .int .i64 at_] w fun e w' => Says (insOk ts cs at_ cs[at_]) e ∧ Below w.heap.size w w' := by
  have hnl := hI.r1.2.1
  obtain ⟨z3, z4, z5⟩ := hz cs[at_] (List.getElem_mem hat)
  have HI := Aside0.mk hI
  have hprev := Aside0.mk (fun h : at_ ≠ 0 => at_43 hI.r2 (at_ - 1) (by omega))
  obtain ⟨ad, A3, c3, A4, c4, A5, c5, rfl, q0, q1, q2, q3, q4, q5, r3, k3, r4, k4, r5, k5⟩ := at_43 hI.r2 at_ hat
  have hm := hI.r2.2.1
  have Hf := Aside0.mk hf
  have Hn := Aside0.mk hn
  have K3 := Aside0.mk k3
  have K4 := Aside0.mk k4
  have K5 := Aside0.mk k5
  clear hI hf hn hz k3 k4 k5
  generalize hcc : cs[at_] = c at *
  clear hcc
  replace q0 := cell_alloc q0
  replace q1 := cell_alloc q1
  replace q2 := cell_alloc q2
  replace q3 := cell_alloc q3
  replace q4 := cell_alloc q4
  replace q5 := cell_alloc q5
  have hmf : ∀ (fn : Fn) (first cap : Array Value) (w : World), (Instr.makeFunc fn first cap).run Try.prog w = .ok (.func fn first cap) w := fun _ _ _ _ => rfl
  have h16 : (c.f0 == 16) = false := by
    rw [beq_eq_false_iff_ne]
    intro e
    have h_ := Hf.out
    rw [e] at h_
    exact absurd h_ (by decide)
  have h26 : (c.f0 == 26) = false := by
    rw [beq_eq_false_iff_ne]
    intro e
    have h_ := Hf.out
    rw [e] at h_
    exact absurd h_ (by decide)
  have h13 : (c.f0 == 13) = false := by
    rw [beq_eq_false_iff_ne]
    intro e
    have h_ := Hf.out
    rw [e] at h_
    exact absurd h_ (by decide)
  by_cases hB : c.f2 ≠ 0
  · have hB1 : (c.f2 != 0) = true := by simpa using hB
    have HhB := Aside0.mk hB
    clear hB
    go_enter Try.func22, Try.ntmps22
    go_wp2_with (first
        | (go_at_call 28; refine (fields_is _ _ Hf.out _).mono ?_; rintro e w' ⟨rfl, ⟨n1, rfl⟩⟩)
        | (go_at_call 41; refine (number_is _ _ _ _ true Hn.out (HI.out.below ?b) rfl (by omega) (Kd.C_below K3.out ?b) r3 (Kd.C_below K4.out ?b) r4 (Kd.C_below K5.out ?b) r5).mono ?_; (case b => exact pw_below_drewN (below_alloc (below_alloc (Below.refl _ _) _) _) _); rintro e w2 ⟨rfl, hb2⟩; obtain ⟨g0, g1, g2, g3⟩ := boxes hb2; clear hb2)
        | (go_at_call 43; refine (containsOutside_calls _ _ _ w.heap.size (some ad) cs.length c2 _ (Kd.C_below K5.out ?b9) r5 ?c9).mono ?_; (case b9 => repeat (first | exact g2 | apply below_alloc | apply pw_below_drewN)); (case c9 => exact (g0 2).trans rfl); rintro e w' ⟨rfl, rfl⟩))
    go_ret
    exact ⟨.inr ⟨rfl, fun h => HhB.out (h.2.2.1 (by rw [Hf.out]; decide))⟩, by repeat (first | exact g2 | apply below_alloc | apply pw_below_drewN)⟩
  replace hB : c.f2 = 0 := by simpa using hB
  have hB1 : (c.f2 != 0) = false := by simpa using hB
  have HhB := Aside0.mk hB
  clear hB
  by_cases hT : 0 < c.f3.length + c.f4.length
  · have hT1 : decide (0 < (c.f3.length : Int) + c.f4.length) = true := decide_eq_true (by omega)
    have HhT := Aside0.mk hT
    clear hT
    go_enter Try.func22, Try.ntmps22
    go_wp2_with (first
        | (go_at_call 28; refine (fields_is _ _ Hf.out _).mono ?_; rintro e w' ⟨rfl, ⟨n1, rfl⟩⟩)
        | (go_at_call 41; refine (number_is _ _ _ _ true Hn.out (HI.out.below ?b) rfl (by omega) (Kd.C_below K3.out ?b) r3 (Kd.C_below K4.out ?b) r4 (Kd.C_below K5.out ?b) r5).mono ?_; (case b => exact pw_below_drewN (below_alloc (below_alloc (Below.refl _ _) _) _) _); rintro e w2 ⟨rfl, hb2⟩; obtain ⟨g0, g1, g2, g3⟩ := boxes hb2; clear hb2)
        | (go_at_call 43; refine (containsOutside_calls _ _ _ w.heap.size (some ad) cs.length c2 _ (Kd.C_below K5.out ?b9) r5 ?c9).mono ?_; (case b9 => repeat (first | exact g2 | apply below_alloc | apply pw_below_drewN)); (case c9 => exact (g0 2).trans rfl); rintro e w' ⟨rfl, rfl⟩))
    go_ret
    exact ⟨.inr ⟨rfl, fun h => by have h_ := h.2.2.2.1 (by rw [Hf.out]; decide); have h1_ := HhT.out; rw [h_.1, h_.2] at h1_; simp at h1_⟩, by repeat (first | exact g2 | apply below_alloc | apply pw_below_drewN)⟩
  replace hT : c.f3 = [] ∧ c.f4 = [] := by exact ⟨List.eq_nil_of_length_eq_zero (by omega), List.eq_nil_of_length_eq_zero (by omega)⟩
  have hT1 : decide (0 < (c.f3.length : Int) + c.f4.length) = false := decide_eq_false (by rw [hT.1, hT.2]; simp)
  have HhT := Aside0.mk hT
  clear hT
  by_cases hL : c.f5.length ≠ 1
  · have hL1 : ((c.f5.length : Int) != 1) = true := by rw [bne_iff_ne]; omega
    have HhL := Aside0.mk hL
    clear hL
    go_enter Try.func22, Try.ntmps22
    go_wp2_with (first
        | (go_at_call 28; refine (fields_is _ _ Hf.out _).mono ?_; rintro e w' ⟨rfl, ⟨n1, rfl⟩⟩)
        | (go_at_call 41; refine (number_is _ _ _ _ true Hn.out (HI.out.below ?b) rfl (by omega) (Kd.C_below K3.out ?b) r3 (Kd.C_below K4.out ?b) r4 (Kd.C_below K5.out ?b) r5).mono ?_; (case b => exact pw_below_drewN (below_alloc (below_alloc (Below.refl _ _) _) _) _); rintro e w2 ⟨rfl, hb2⟩; obtain ⟨g0, g1, g2, g3⟩ := boxes hb2; clear hb2)
        | (go_at_call 43; refine (containsOutside_calls _ _ _ w.heap.size (some ad) cs.length c2 _ (Kd.C_below K5.out ?b9) r5 ?c9).mono ?_; (case b9 => repeat (first | exact g2 | apply below_alloc | apply pw_below_drewN)); (case c9 => exact (g0 2).trans rfl); rintro e w' ⟨rfl, rfl⟩))
    go_ret
    exact ⟨.inr ⟨rfl, fun h => HhL.out (h.2.2.2.2.1 (by rw [Hf.out]; decide))⟩, by repeat (first | exact g2 | apply below_alloc | apply pw_below_drewN)⟩
  replace hL : c.f5.length = 1 := by omega
  have hL1 : ((c.f5.length : Int) != 1) = false := by simp [hL]
  have HhL := Aside0.mk hL
  clear hL
  obtain ⟨b, hb⟩ : ∃ b, c.f5.any (outside cs.length) = b := ⟨_, rfl⟩
  have Hb := Aside0.mk hb
  clear hb
  go_enter Try.func22, Try.ntmps22
  go_wp2_with (first
    | (go_at_call 28; refine (fields_is _ _ Hf.out _).mono ?_; rintro e w' ⟨rfl, ⟨n1, rfl⟩⟩)
    | (go_at_call 41; refine (number_is _ _ _ _ true Hn.out (HI.out.below ?b) rfl (by omega) (Kd.C_below K3.out ?b) r3 (Kd.C_below K4.out ?b) r4 (Kd.C_below K5.out ?b) r5).mono ?_; (case b => exact pw_below_drewN (below_alloc (below_alloc (Below.refl _ _) _) _) _); rintro e w2 ⟨rfl, hb2⟩; obtain ⟨g0, g1, g2, g3⟩ := boxes hb2; clear hb2)
    | (go_at_call 43; refine (containsOutside_calls _ _ _ w.heap.size (some ad) cs.length c2 _ (Kd.C_below K5.out ?b9) r5 ?c9).mono ?_; (case b9 => repeat (first | exact g2 | apply below_alloc | apply pw_below_drewN)); (case c9 => exact (g0 2).trans rfl); rintro e w' ⟨rfl, rfl⟩))
  rw [Hb.out]
  go_ret
  refine ⟨?_, by repeat (first | exact g2 | apply below_alloc | apply pw_below_drewN)⟩
  cases b with
  | true => exact .inr ⟨rfl, fun h => by have h_ := h.2.2.2.2.2.2.2.2.2; rw [Hb.out] at h_; cases h_⟩
  | false =>
    refine .inl ⟨rfl, ?_⟩
    exact ⟨by rw [Hf.out]; decide, Hn.out, fun _ => HhB.out, fun _ => HhT.out, fun _ => HhL.out, fun h => by rw [Hf.out] at h; exact absurd h (by decide), fun h => by rw [h] at h16; exact absurd h16 (by decide), fun h => by rw [h] at h26; exact absurd h26 (by decide), fun h => by rw [h] at h13; exact absurd h13 (by decide), Hb.out⟩
set_option maxRecDepth 100000 in
set_option maxHeartbeats 1000000 in
theorem ins_f9 (A0 : Option Addr) (c0 : Nat) (A1 : Option Addr) (c1 : Nat) (A2 : Option Addr) (c2 : Nat) (es : List S45) (ts : List ByteArray) (cs : List S43) (at_ : Nat) (w : World) (hI : ImgAt w A0 c0 A1 c1 A2 c2 es ts cs) (hat : at_ < cs.length) (hz : Sized cs) (hn : numberOk ts.length cs[at_].f0 cs[at_].f1 cs[at_].f2 = true) (hf : fieldsOf cs[at_].f0 = 9) :
    Calls Try.prog 22 #[imgV A0 c0 A1 c1 A2 c2 es ts cs, .int .i64 at_] w fun e w' => Says (insOk ts cs at_ cs[at_]) e ∧ Below w.heap.size w w' := by
  have hnl := hI.r1.2.1
  obtain ⟨z3, z4, z5⟩ := hz cs[at_] (List.getElem_mem hat)
  have HI := Aside0.mk hI
  have hprev := Aside0.mk (fun h : at_ ≠ 0 => at_43 hI.r2 (at_ - 1) (by omega))
  obtain ⟨ad, A3, c3, A4, c4, A5, c5, rfl, q0, q1, q2, q3, q4, q5, r3, k3, r4, k4, r5, k5⟩ := at_43 hI.r2 at_ hat
  have hm := hI.r2.2.1
  have Hf := Aside0.mk hf
  have Hn := Aside0.mk hn
  have K3 := Aside0.mk k3
  have K4 := Aside0.mk k4
  have K5 := Aside0.mk k5
  clear hI hf hn hz k3 k4 k5
  generalize hcc : cs[at_] = c at *
  clear hcc
  replace q0 := cell_alloc q0
  replace q1 := cell_alloc q1
  replace q2 := cell_alloc q2
  replace q3 := cell_alloc q3
  replace q4 := cell_alloc q4
  replace q5 := cell_alloc q5
  have hmf : ∀ (fn : Fn) (first cap : Array Value) (w : World), (Instr.makeFunc fn first cap).run Try.prog w = .ok (.func fn first cap) w := fun _ _ _ _ => rfl
  have h16 : (c.f0 == 16) = false := by
    rw [beq_eq_false_iff_ne]
    intro e
    have h_ := Hf.out
    rw [e] at h_
    exact absurd h_ (by decide)
  have h26 : (c.f0 == 26) = false := by
    rw [beq_eq_false_iff_ne]
    intro e
    have h_ := Hf.out
    rw [e] at h_
    exact absurd h_ (by decide)
  have h13 : (c.f0 == 13) = false := by
    rw [beq_eq_false_iff_ne]
    intro e
    have h_ := Hf.out
    rw [e] at h_
    exact absurd h_ (by decide)
  by_cases hB : c.f2 ≠ 0
  · have hB1 : (c.f2 != 0) = true := by simpa using hB
    have HhB := Aside0.mk hB
    clear hB
    go_enter Try.func22, Try.ntmps22
    go_wp2_with (first
        | (go_at_call 28; refine (fields_is _ _ Hf.out _).mono ?_; rintro e w' ⟨rfl, ⟨n1, rfl⟩⟩)
        | (go_at_call 41; refine (number_is _ _ _ _ true Hn.out (HI.out.below ?b) rfl (by omega) (Kd.C_below K3.out ?b) r3 (Kd.C_below K4.out ?b) r4 (Kd.C_below K5.out ?b) r5).mono ?_; (case b => exact pw_below_drewN (below_alloc (below_alloc (Below.refl _ _) _) _) _); rintro e w2 ⟨rfl, hb2⟩; obtain ⟨g0, g1, g2, g3⟩ := boxes hb2; clear hb2)
        | (go_at_call 43; refine (containsOutside_calls _ _ _ w.heap.size (some ad) cs.length c2 _ (Kd.C_below K5.out ?b9) r5 ?c9).mono ?_; (case b9 => repeat (first | exact g2 | apply below_alloc | apply pw_below_drewN)); (case c9 => exact (g0 2).trans rfl); rintro e w' ⟨rfl, rfl⟩))
    go_ret
    exact ⟨.inr ⟨rfl, fun h => HhB.out (h.2.2.1 (by rw [Hf.out]; decide))⟩, by repeat (first | exact g2 | apply below_alloc | apply pw_below_drewN)⟩
  replace hB : c.f2 = 0 := by simpa using hB
  have hB1 : (c.f2 != 0) = false := by simpa using hB
  have HhB := Aside0.mk hB
  clear hB
  by_cases hT : 0 < c.f3.length + c.f4.length
  · have hT1 : decide (0 < (c.f3.length : Int) + c.f4.length) = true := decide_eq_true (by omega)
    have HhT := Aside0.mk hT
    clear hT
    go_enter Try.func22, Try.ntmps22
    go_wp2_with (first
        | (go_at_call 28; refine (fields_is _ _ Hf.out _).mono ?_; rintro e w' ⟨rfl, ⟨n1, rfl⟩⟩)
        | (go_at_call 41; refine (number_is _ _ _ _ true Hn.out (HI.out.below ?b) rfl (by omega) (Kd.C_below K3.out ?b) r3 (Kd.C_below K4.out ?b) r4 (Kd.C_below K5.out ?b) r5).mono ?_; (case b => exact pw_below_drewN (below_alloc (below_alloc (Below.refl _ _) _) _) _); rintro e w2 ⟨rfl, hb2⟩; obtain ⟨g0, g1, g2, g3⟩ := boxes hb2; clear hb2)
        | (go_at_call 43; refine (containsOutside_calls _ _ _ w.heap.size (some ad) cs.length c2 _ (Kd.C_below K5.out ?b9) r5 ?c9).mono ?_; (case b9 => repeat (first | exact g2 | apply below_alloc | apply pw_below_drewN)); (case c9 => exact (g0 2).trans rfl); rintro e w' ⟨rfl, rfl⟩))
    go_ret
    exact ⟨.inr ⟨rfl, fun h => by have h_ := h.2.2.2.1 (by rw [Hf.out]; decide); have h1_ := HhT.out; rw [h_.1, h_.2] at h1_; simp at h1_⟩, by repeat (first | exact g2 | apply below_alloc | apply pw_below_drewN)⟩
  replace hT : c.f3 = [] ∧ c.f4 = [] := by exact ⟨List.eq_nil_of_length_eq_zero (by omega), List.eq_nil_of_length_eq_zero (by omega)⟩
  have hT1 : decide (0 < (c.f3.length : Int) + c.f4.length) = false := decide_eq_false (by rw [hT.1, hT.2]; simp)
  have HhT := Aside0.mk hT
  clear hT
  by_cases hL : c.f5.length ≠ 1
  · have hL1 : ((c.f5.length : Int) != 1) = true := by rw [bne_iff_ne]; omega
    have HhL := Aside0.mk hL
    clear hL
    go_enter Try.func22, Try.ntmps22
    go_wp2_with (first
        | (go_at_call 28; refine (fields_is _ _ Hf.out _).mono ?_; rintro e w' ⟨rfl, ⟨n1, rfl⟩⟩)
        | (go_at_call 41; refine (number_is _ _ _ _ true Hn.out (HI.out.below ?b) rfl (by omega) (Kd.C_below K3.out ?b) r3 (Kd.C_below K4.out ?b) r4 (Kd.C_below K5.out ?b) r5).mono ?_; (case b => exact pw_below_drewN (below_alloc (below_alloc (Below.refl _ _) _) _) _); rintro e w2 ⟨rfl, hb2⟩; obtain ⟨g0, g1, g2, g3⟩ := boxes hb2; clear hb2)
        | (go_at_call 43; refine (containsOutside_calls _ _ _ w.heap.size (some ad) cs.length c2 _ (Kd.C_below K5.out ?b9) r5 ?c9).mono ?_; (case b9 => repeat (first | exact g2 | apply below_alloc | apply pw_below_drewN)); (case c9 => exact (g0 2).trans rfl); rintro e w' ⟨rfl, rfl⟩))
    go_ret
    exact ⟨.inr ⟨rfl, fun h => HhL.out (h.2.2.2.2.1 (by rw [Hf.out]; decide))⟩, by repeat (first | exact g2 | apply below_alloc | apply pw_below_drewN)⟩
  replace hL : c.f5.length = 1 := by omega
  have hL1 : ((c.f5.length : Int) != 1) = false := by simp [hL]
  have HhL := Aside0.mk hL
  clear hL
  obtain ⟨b, hb⟩ : ∃ b, c.f5.any (outside cs.length) = b := ⟨_, rfl⟩
  have Hb := Aside0.mk hb
  clear hb
  go_enter Try.func22, Try.ntmps22
  go_wp2_with (first
    | (go_at_call 28; refine (fields_is _ _ Hf.out _).mono ?_; rintro e w' ⟨rfl, ⟨n1, rfl⟩⟩)
    | (go_at_call 41; refine (number_is _ _ _ _ true Hn.out (HI.out.below ?b) rfl (by omega) (Kd.C_below K3.out ?b) r3 (Kd.C_below K4.out ?b) r4 (Kd.C_below K5.out ?b) r5).mono ?_; (case b => exact pw_below_drewN (below_alloc (below_alloc (Below.refl _ _) _) _) _); rintro e w2 ⟨rfl, hb2⟩; obtain ⟨g0, g1, g2, g3⟩ := boxes hb2; clear hb2)
    | (go_at_call 43; refine (containsOutside_calls _ _ _ w.heap.size (some ad) cs.length c2 _ (Kd.C_below K5.out ?b9) r5 ?c9).mono ?_; (case b9 => repeat (first | exact g2 | apply below_alloc | apply pw_below_drewN)); (case c9 => exact (g0 2).trans rfl); rintro e w' ⟨rfl, rfl⟩))
  rw [Hb.out]
  go_ret
  refine ⟨?_, by repeat (first | exact g2 | apply below_alloc | apply pw_below_drewN)⟩
  cases b with
  | true => exact .inr ⟨rfl, fun h => by have h_ := h.2.2.2.2.2.2.2.2.2; rw [Hb.out] at h_; cases h_⟩
  | false =>
    refine .inl ⟨rfl, ?_⟩
    exact ⟨by rw [Hf.out]; decide, Hn.out, fun _ => HhB.out, fun _ => HhT.out, fun _ => HhL.out, fun h => by rw [Hf.out] at h; exact absurd h (by decide), fun h => by rw [h] at h16; exact absurd h16 (by decide), fun h => by rw [h] at h26; exact absurd h26 (by decide), fun h => by rw [h] at h13; exact absurd h13 (by decide), Hb.out⟩
end Go.Proofs.Ytmjafkhkoifopaa.C16
end
section
/- The reader of code: it gives up by a panic. -/
namespace Go.Proofs.Ytmjafkhkoifopaa.C16
open Go.RowKit Go.Proofs.YtmjafkhkoifopaaW.PrintWords Go.Proofs.YtmjafkhkoifopaaW.PrintLast Go.Proofs.YtmjafkhkoifopaaW.PrintMore Go.Proofs.Ytmjafkhkoifopaa.PCodeDecodes
set_option linter.unusedVariables false
set_option linter.unusedSimpArgs false

/-- The reader g has these bytes before it. -/
def Rd (w0 W : World) (g : Nat) (bs : List Int) : Prop :=
  (∀ x, x ∈ bs → 0 ≤ x ∧ x ≤ 255) ∧ ∃ A c, W.heap[g]? = some (.cells #[.slice A bs.length c] 61 (0, 0)) ∧ bs.length ≤ c ∧ Kd.C (Kd.int .u8) w0 A bs.length bs ∧ w0.heap.size ≤ g ∧ Below w0.heap.size w0 W
/-- It gave up. -/
def GaveUp (e : Ending) : Prop := e = .panicked [{ v := .iface 57 (.agg #[]), recovered := false }]
theorem Rd.cell {w0 W : World} {g : Nat} {bs : List Int} (h : Rd w0 W g bs) : ∃ A c, W.cell? ⟨g, 0, none⟩ = some (.slice A bs.length c) ∧ W.frozen? ⟨g, 0, none⟩ = false ∧ bs.length ≤ c ∧ bs.length ≤ 9223372036854775807 ∧ Kd.C (Kd.int .u8) w0 A bs.length bs := by
  obtain ⟨hx, A, c, hh, hc, hr, _⟩ := h
  refine ⟨A, c, ?_, ?_, hc, hr.2.1, hr⟩
  · simp [World.cell?, hh]
  · simp [World.frozen?, hh]
theorem Rd.kept {w0 W W1 : World} {g : Nat} {bs : List Int} (h : Rd w0 W g bs) (hk : Kept W W1 (fun _ => False)) (hb : Below w0.heap.size w0 W1) : Rd w0 W1 g bs := by
  obtain ⟨hx, A, c, hh, hc, hr, hg, _⟩ := h
  exact ⟨hx, A, c, (hk.2 g (blk_lt hh) (fun x => x)).trans hh, hc, hr, hg, hb⟩
theorem Rd.base {w0 W : World} {g : Nat} {bs : List Int} (h : Rd w0 W g bs) : w0.heap.size ≤ g ∧ g < W.heap.size ∧ Below w0.heap.size w0 W := by
  obtain ⟨hx, A, c, hh, hc, hr, hg, hb⟩ := h
  exact ⟨hg, blk_lt hh, hb⟩

theorem take_bad (w0 W : World) (g : Nat) (bs : List Int) (n : Int) (h : Rd w0 W g bs) (hn : n < 0 ∨ (bs.length : Int) < n) :
    Calls Try.prog 50 #[.pointer (some ⟨g, 0, none⟩), .int .i64 n] W fun e w' => GaveUp e ∧ W = w' := by
  obtain ⟨A, c, hcell, hfr, hc, hm, hr⟩ := h.cell
  clear h hr
  by_cases h0 : n < 0
  · go_enter Try.func50, Try.ntmps50
    go_wp2
    exact ⟨rfl, rfl, rfl⟩
  · have h1 : (bs.length : Int) < n := by omega
    go_enter Try.func50, Try.ntmps50
    go_wp2
    exact ⟨rfl, rfl, rfl⟩

theorem Rd.set {w0 W : World} {g : Nat} {bs : List Int} (h : Rd w0 W g bs) {A' : Option Addr} {c' n' : Nat} {bs' : List Int} (hn : n' = bs'.length) (hx' : ∀ x, x ∈ bs' → x ∈ bs) (hl : n' ≤ c') (hr : Kd.C (Kd.int .u8) w0 A' bs'.length bs') :
    Rd w0 (W.setCell ⟨g, 0, none⟩ (.slice A' n' c')) g bs' := by
  obtain ⟨hx, A, c, hh, hc, _, hg, hb⟩ := h
  subst hn
  exact ⟨fun x h => hx x (hx' x h), A', c', by simpa using blk_set hh 0 (.slice A' bs'.length c'), hl, hr, hg, hb.setCell (by simpa using hg) _⟩

theorem take_ok (w0 W : World) (g : Nat) (bs : List Int) (n : Nat) (h : Rd w0 W g bs) (hn : n ≤ bs.length) :
    Calls Try.prog 50 #[.pointer (some ⟨g, 0, none⟩), .int .i64 n] W fun e w' => ∃ A' c', e = .returned (.slice A' n c') ∧ n ≤ c' ∧ Kd.C (Kd.int .u8) w0 A' n (bs.take n) ∧ Rd w0 w' g (bs.drop n) ∧ Kept W w' (fun k => k = g) := by
  obtain ⟨A, c, hcell, hfr, hc, hm, hr⟩ := h.cell
  have H := Aside0.mk h
  have HR := Aside0.mk hr
  have HT := Aside0.mk (Kd.C_take hr hn)
  have HD := Aside0.mk (Kd.C_drop (c := c) hr hn hc)
  have ht : (bs.take n).length = n := by rw [List.length_take]; omega
  have hd : bs.length - n = (bs.drop n).length := List.length_drop.symm
  have HL := Aside0.mk ht
  have HM := Aside0.mk hd
  clear h hr ht hd
  have HK : ∀ v, Kept W (W.setCell ⟨g, 0, none⟩ v) (fun k => k = g) := fun v => (Kept.refl W (fun k => k = g)).setCell (p := ⟨g, 0, none⟩) (.inl rfl) v
  have HTT := HT.out
  rw [HL.out] at HTT
  have HT' := Aside0.mk HTT
  have HKK := Aside0.mk HK
  clear HTT HT HK
  by_cases hcn : c = n
  · subst hcn
    have HDD := HD.out
    rw [if_pos rfl] at HDD
    have HD' := Aside0.mk HDD
    clear HDD HD
    go_enter Try.func50, Try.ntmps50
    go_wp2
    go_ret
    exact ⟨A, _, rfl, Nat.le_refl _, HT'.out, H.out.set (by have := HM.out; omega) (fun _ => List.mem_of_mem_drop) (by omega) HD'.out, HKK.out _⟩
  · have HDD := HD.out
    rw [if_neg hcn] at HDD
    have HD' := Aside0.mk HDD
    clear HDD HD
    go_enter Try.func50, Try.ntmps50
    go_wp2
    go_ret
    exact ⟨A, c, rfl, by omega, HT'.out, H.out.set HM.out (fun _ => List.mem_of_mem_drop) (by omega) (by have h_ := HD'.out; rwa [show (Kd.int IntKind.u8).sz = 1 from rfl, Nat.mul_one] at h_), HKK.out _⟩

/-- A number out of its bytes, the lowest first. -/
def leN : List Int → Int
  | [] => 0
  | x :: r => x + 256 * leN r
def le8 (l : List Int) : Int := leN (l.take 8)
theorem leN_range : ∀ (l : List Int), (∀ x, x ∈ l → 0 ≤ x ∧ x ≤ 255) → 0 ≤ leN l ∧ leN l < 256 ^ l.length
  | [], _ => by simp [leN]
  | x :: r, h => by
    obtain ⟨h1, h2⟩ := leN_range r (fun y hy => h y (List.mem_cons_of_mem _ hy))
    obtain ⟨h3, h4⟩ := h x List.mem_cons_self
    simp only [leN, List.length_cons]
    rw [Int.pow_succ]
    omega
theorem leN_snoc : ∀ (l : List Int) (y : Int), leN (l ++ [y]) = leN l + y * 256 ^ l.length
  | [], y => by simp [leN]
  | x :: r, y => by
    simp only [List.cons_append, leN, leN_snoc r y, List.length_cons]
    rw [Int.pow_succ, Int.mul_add, Int.add_assoc]
    congr 2
    rw [Int.mul_comm (256 ^ r.length) 256, ← Int.mul_assoc, ← Int.mul_assoc, Int.mul_comm y 256]
theorem or_join (a y : Nat) (i : Nat) (ha : a < 2 ^ i) (hy : y ≤ 255) (hi : i ≤ 56) : bits .or .i64 (a : Int) (wrap64 ((y : Int) * 2 ^ i)) = wrap64 ((a : Int) + (y : Int) * 2 ^ i) := by
  have hp : (2 : Nat) ^ i ≤ 2 ^ 56 := Nat.pow_le_pow_right (by decide) hi
  have hyi : y * 2 ^ i < 2 ^ 64 := by
    have : y * 2 ^ i ≤ 255 * 2 ^ 56 := Nat.mul_le_mul hy hp
    omega
  have hc : ((y : Int) * 2 ^ i) = ((y * 2 ^ i : Nat) : Int) := by simp
  have e1 : (BitVec.ofInt 64 (wrap64 ((y : Int) * 2 ^ i))).toNat = y * 2 ^ i := by
    rw [hc, BitVec.toNat_ofInt]
    unfold wrap64
    omega
  have e2 : (BitVec.ofInt 64 (a : Int)).toNat = a := by
    rw [BitVec.toNat_ofInt]
    omega
  have e3 : a ||| y * 2 ^ i = a + y * 2 ^ i := by
    have := Nat.two_pow_add_eq_or_of_lt ha y
    rw [Nat.or_comm, Nat.mul_comm y, ← this, Nat.add_comm]
  have e4 : bits .or .i64 (a : Int) (wrap64 ((y : Int) * 2 ^ i)) = IntKind.i64.wrap ((BitVec.ofInt 64 (a : Int) ||| BitVec.ofInt 64 (wrap64 ((y : Int) * 2 ^ i))).toNat : Int) := rfl
  rw [e4, BitVec.toNat_or, e1, e2, e3, hc, IntKind.wrap_i64]
  unfold wrap64
  push_cast
  rfl
theorem or_step (ys : List Int) (hl : ys.length = 8) (hb : ∀ x, x ∈ ys → 0 ≤ x ∧ x ≤ 255) (k : Nat) (hk : k < 8) (h : k < ys.length) :
    bits .or .i64 (wrap64 (leN (ys.take k))) (wrap64 (ys[k] * 2 ^ (8 * k))) = wrap64 (leN (ys.take (k + 1))) := by
  have hlen : (ys.take k).length = k := by rw [List.length_take]; omega
  obtain ⟨h1, h2⟩ := leN_range (ys.take k) (fun x hx => hb x (List.mem_of_mem_take hx))
  rw [hlen] at h2
  have e256 : (256 : Int) ^ k = 2 ^ (8 * k) := by rw [Int.pow_mul]; rfl
  have hs : leN (ys.take (k + 1)) = leN (ys.take k) + ys[k] * 2 ^ (8 * k) := by
    rw [List.take_succ_eq_append_getElem h, leN_snoc, hlen, e256]
  obtain ⟨a, ha⟩ := Int.eq_ofNat_of_zero_le h1
  obtain ⟨hy0, hy1⟩ := hb ys[k] (List.getElem_mem _)
  obtain ⟨y, hy⟩ := Int.eq_ofNat_of_zero_le hy0
  have hp : (2 : Int) ^ (8 * k) ≤ 2 ^ 56 := by
    have : (2 : Nat) ^ (8 * k) ≤ 2 ^ 56 := Nat.pow_le_pow_right (by decide) (by omega)
    exact_mod_cast this
  have hw : wrap64 (leN (ys.take k)) = leN (ys.take k) := wrap_id (by omega) (by rw [e256] at h2; omega)
  rw [hw, hs, ha, hy]
  refine or_join a y (8 * k) ?_ (by omega) (by omega)
  rw [ha, e256] at h2
  exact_mod_cast h2

theorem number_bad (w0 W : World) (g : Nat) (bs : List Int) (h : Rd w0 W g bs) (hn : bs.length < 8) :
    Calls Try.prog 53 #[.pointer (some ⟨g, 0, none⟩)] W fun e w' => GaveUp e ∧ W = w' := by
  have H := Aside0.mk h
  clear h
  go_enter Try.func53, Try.ntmps53
  go_wp2_with (go_at_call 50; refine (take_bad w0 _ g bs 8 H.out (.inr (by omega))).mono ?_; rintro e w' ⟨he, rfl⟩; cases he)
  exact ⟨rfl, rfl, rfl⟩
theorem number_ok (w0 W : World) (g : Nat) (bs : List Int) (h : Rd w0 W g bs) (hn : 8 ≤ bs.length) :
    Calls Try.prog 53 #[.pointer (some ⟨g, 0, none⟩)] W fun e w' => e = .returned (.int .i64 (wrap64 (le8 bs))) ∧ Rd w0 w' g (bs.drop 8) ∧ Kept W w' (fun k => k = g) := by
  have H := Aside0.mk h
  clear h
  go_enter Try.func53, Try.ntmps53
  go_wp2_with (go_at_call 50; refine (take_ok w0 _ g bs 8 H.out hn).mono ?_; rintro e w1 ⟨A, c, rfl, hc, hr, hrd, hk⟩)
  have HR := Aside0.mk (Kd.C_below hr hrd.base.2.2)
  have HD := Aside0.mk hrd
  have HK := Aside0.mk hk
  have hb0 := H.out.1
  have hl8 : (bs.take 8).length = 8 := by rw [List.length_take]; omega
  have HB := Aside0.mk (fun x (hx : x ∈ bs.take 8) => hb0 x (List.mem_of_mem_take hx))
  have HL := Aside0.mk hl8
  have HV : Aside0 (∃ ys, bs.take 8 = ys ∧ le8 bs = leN ys) := ⟨_, rfl, rfl⟩
  obtain ⟨ys, hys, hle⟩ := HV.out
  rw [hys] at HB HL HR
  have HE := Aside0.mk hle
  clear hr hrd hk hb0 hl8 HV hle hys
  go_loop [3, 9] (fun n i => ∃ k : Nat, k ≤ 8 ∧ i = .int .i64 k ∧ n = .int .i64 (wrap64 (leN (ys.take k)))) (fun _ i => 8 - (intOf i).toNat)
  case atStart => exact ⟨0, by omega, rfl, by rw [List.take_zero, show wrap64 (leN []) = 0 from by simp [leN, wrap64]]⟩
  case round =>
    obtain ⟨k, hk, rfl, rfl⟩ := hrel
    by_cases hlt : k < 8
    · obtain ⟨ad, rfl, hcell⟩ := at_int_nat HR.out k (by have := HL.out; omega)
      have hky : k < ys.length := by have := HL.out; omega
      have hyb := HB.out ys[k] (List.getElem_mem _)
      have HS := Aside0.mk (or_step ys HL.out HB.out k hlt hky)
      generalize ys[k] = y at *
      obtain ⟨hy0, hy1⟩ := hyb
      generalize wrap64 (leN (ys.take k)) = acc at *
      go_wp2
      go_round
      case rel => exact ⟨k + 1, by omega, by go_num, by rw [HS.out]⟩
      case measure => simp [intOf]; omega
    · obtain rfl : k = 8 := by omega
      have HF : Aside0 (ys.take 8 = ys) := ⟨List.take_of_length_le (by have := HL.out; omega)⟩
      rw [HF.out]
      have HF' := Aside0.mk (congrArg wrap64 HE.out)
      clear HF
      generalize wrap64 (leN ys) = acc at *
      go_wp2
      go_ret
      exact ⟨ret_int HF'.out.symm, HD.out, HK.out⟩

theorem count_bad (w0 W : World) (g : Nat) (bs : List Int) (h : Rd w0 W g bs) (hn : bs.length < 8) :
    Calls Try.prog 51 #[.pointer (some ⟨g, 0, none⟩)] W fun e w' => GaveUp e ∧ W = w' := by
  have H := Aside0.mk h
  clear h
  go_enter Try.func51, Try.ntmps51
  go_wp2_with (go_at_call 53; refine (number_bad w0 _ g bs H.out hn).mono ?_; rintro e w' ⟨he, rfl⟩; cases he)
  exact ⟨rfl, rfl, rfl⟩
/-- A count that can't be: each element has at least 8 bytes. -/
theorem count_great (w0 W : World) (g : Nat) (bs : List Int) (h : Rd w0 W g bs) (hn : 8 ≤ bs.length) (hc : wrap64 (le8 bs) < 0 ∨ ((bs.length - 8) / 8 : Nat) < wrap64 (le8 bs)) :
    Calls Try.prog 51 #[.pointer (some ⟨g, 0, none⟩)] W fun e w' => GaveUp e ∧ Kept W w' (fun k => k = g) ∧ Below w0.heap.size w0 w' := by
  have H := Aside0.mk h
  clear h
  generalize hv : wrap64 (le8 bs) = v at *
  have HV := Aside0.mk hv
  clear hv
  have hd : (bs.drop 8).length = bs.length - 8 := List.length_drop
  have HD := Aside0.mk hd
  clear hd
  by_cases h0 : v < 0
  · go_enter Try.func51, Try.ntmps51
    go_wp2_with (go_at_call 53; refine (number_ok w0 _ g bs H.out hn).mono ?_; rintro e w1 ⟨he, hrd, hk⟩; rw [HV.out] at he; subst he; have HR := Aside0.mk hrd; have HK := Aside0.mk hk; clear hrd hk)
    exact ⟨rfl, rfl, HK.out, HR.out.base.2.2⟩
  · have h1 : ((bs.length - 8 : Nat) : Int) / 8 < v := by omega
    go_enter Try.func51, Try.ntmps51
    go_wp2_with (go_at_call 53; refine (number_ok w0 _ g bs H.out hn).mono ?_; rintro e w1 ⟨he, hrd, hk⟩; rw [HV.out] at he; subst he; obtain ⟨A, c, hcell, hfr, hc', hm, hr⟩ := hrd.cell; rw [HD.out] at hcell hm; have HR := Aside0.mk hrd; have HK := Aside0.mk hk; clear hrd hk hc' hr)
    exact ⟨rfl, rfl, HK.out, HR.out.base.2.2⟩
theorem count_ok (w0 W : World) (g : Nat) (bs : List Int) (h : Rd w0 W g bs) (hn : 8 ≤ bs.length) (n : Nat) (hc : wrap64 (le8 bs) = n) (hle : n ≤ (bs.length - 8) / 8) :
    Calls Try.prog 51 #[.pointer (some ⟨g, 0, none⟩)] W fun e w' => e = .returned (.int .i64 n) ∧ Rd w0 w' g (bs.drop 8) ∧ Kept W w' (fun k => k = g) := by
  have H := Aside0.mk h
  clear h
  have HV := Aside0.mk hc
  clear hc
  have hd : (bs.drop 8).length = bs.length - 8 := List.length_drop
  have HD := Aside0.mk hd
  clear hd
  have h1 : (n : Int) ≤ ((bs.length - 8 : Nat) : Int) / 8 := by omega
  go_enter Try.func51, Try.ntmps51
  go_wp2_with (go_at_call 53; refine (number_ok w0 _ g bs H.out hn).mono ?_; rintro e w1 ⟨he, hrd, hk⟩; rw [HV.out] at he; subst he; obtain ⟨A, c, hcell, hfr, hc', hm, hr⟩ := hrd.cell; rw [HD.out] at hcell hm; have HR := Aside0.mk hrd; have HK := Aside0.mk hk; clear hrd hk hc' hr)
  go_ret
  exact ⟨rfl, HR.out, HK.out⟩
end Go.Proofs.Ytmjafkhkoifopaa.C16
end
section
/- The reader of code: texts, lists, places. -/
namespace Go.Proofs.Ytmjafkhkoifopaa.C16
open Go.RowKit Go.Proofs.YtmjafkhkoifopaaW.PrintWords Go.Proofs.YtmjafkhkoifopaaW.PrintLast Go.Proofs.YtmjafkhkoifopaaW.PrintMore Go.Proofs.Ytmjafkhkoifopaa.PCodeDecodes
attribute [local go_sem] max2_int min2_int max_two min_two   -- for this text's walks alone
set_option linter.unusedVariables false
set_option linter.unusedSimpArgs false

/-! ### what is read, as plain functions of the bytes -/
def pNum (bs : List Int) : Option (Int × List Int) := if bs.length < 8 then none else some (wrap64 (le8 bs), bs.drop 8)
def pCount (bs : List Int) : Option (Nat × List Int) := match pNum bs with
  | none => none
  | some (n, r) => if n < 0 ∨ ((r.length / 8 : Nat) : Int) < n then none else some (n.toNat, r)
def pText (bs : List Int) : Option (ByteArray × List Int) := match pNum bs with
  | none => none
  | some (n, r) => if n < 0 ∨ (r.length : Int) < n then none else some (strOfNums (r.take n.toNat), r.drop n.toNat)
def pNums : Nat → List Int → Option (List Int × List Int)
  | 0, bs => some ([], bs)
  | n + 1, bs => match pNum bs with
    | none => none
    | some (x, r) => match pNums n r with
      | none => none
      | some (l, r') => some (x :: l, r')
def pList (bs : List Int) : Option (List Int × List Int) := match pCount bs with
  | none => none
  | some (n, r) => pNums n r
def clamp (x : Int) : Int := mn (mx x (-1)) 8000
def pPlaces : Nat → List Int → Option (List Int × List Int)
  | 0, bs => some ([], bs)
  | n + 1, bs => match pNum bs with
    | none => none
    | some (x, r) => match pPlaces n r with
      | none => none
      | some (l, r') => some (clamp x :: l, r')

/-! ### what the reader's functions tell -/
def Gives (w0 W : World) (g : Nat) (e : Ending) (w' : World) : Prop := GaveUp e ∧ Kept W w' (fun k => k = g) ∧ Below w0.heap.size w0 w'
theorem num_none (w0 W : World) (g : Nat) (bs : List Int) (h : Rd w0 W g bs) (hp : pNum bs = none) : Calls Try.prog 53 #[.pointer (some ⟨g, 0, none⟩)] W fun e w' => Gives w0 W g e w' := by
  have hb := h.base.2.2
  refine (number_bad w0 W g bs h ?_).mono fun e w' ⟨h1, h2⟩ => ?_
  · unfold pNum at hp
    by_cases h8 : bs.length < 8
    · exact h8
    · rw [if_neg h8] at hp; cases hp
  · subst h2
    exact ⟨h1, Kept.refl _ _, hb⟩
theorem num_some (w0 W : World) (g : Nat) (bs : List Int) (h : Rd w0 W g bs) (x : Int) (r : List Int) (hp : pNum bs = some (x, r)) :
    Calls Try.prog 53 #[.pointer (some ⟨g, 0, none⟩)] W fun e w' => e = .returned (.int .i64 x) ∧ Rd w0 w' g r ∧ Kept W w' (fun k => k = g) := by
  unfold pNum at hp
  by_cases h8 : bs.length < 8
  · rw [if_pos h8] at hp; cases hp
  · rw [if_neg h8] at hp
    cases hp
    exact number_ok w0 W g bs h (by omega)
theorem cnt_none (w0 W : World) (g : Nat) (bs : List Int) (h : Rd w0 W g bs) (hp : pCount bs = none) : Calls Try.prog 51 #[.pointer (some ⟨g, 0, none⟩)] W fun e w' => Gives w0 W g e w' := by
  have hb := h.base.2.2
  by_cases h8 : bs.length < 8
  · refine (count_bad w0 W g bs h h8).mono fun e w' ⟨h1, h2⟩ => ?_
    subst h2
    exact ⟨h1, Kept.refl _ _, hb⟩
  · refine (count_great w0 W g bs h (by omega) ?_).mono fun e w' h1 => h1
    unfold pCount pNum at hp
    rw [if_neg h8] at hp
    dsimp only at hp
    rw [List.length_drop] at hp
    by_cases hc : wrap64 (le8 bs) < 0 ∨ (((bs.length - 8) / 8 : Nat) : Int) < wrap64 (le8 bs)
    · exact hc
    · rw [if_neg hc] at hp; cases hp
theorem cnt_some (w0 W : World) (g : Nat) (bs : List Int) (h : Rd w0 W g bs) (n : Nat) (r : List Int) (hp : pCount bs = some (n, r)) :
    Calls Try.prog 51 #[.pointer (some ⟨g, 0, none⟩)] W fun e w' => e = .returned (.int .i64 n) ∧ Rd w0 w' g r ∧ Kept W w' (fun k => k = g) := by
  unfold pCount pNum at hp
  by_cases h8 : bs.length < 8
  · rw [if_pos h8] at hp; cases hp
  · rw [if_neg h8] at hp
    dsimp only at hp
    rw [List.length_drop] at hp
    by_cases hc : wrap64 (le8 bs) < 0 ∨ (((bs.length - 8) / 8 : Nat) : Int) < wrap64 (le8 bs)
    · rw [if_pos hc] at hp; cases hp
    · rw [if_neg hc] at hp
      cases hp
      exact count_ok w0 W g bs h (by omega) _ (by omega) (by omega)
theorem place_none (w0 W : World) (g : Nat) (bs : List Int) (h : Rd w0 W g bs) (hp : pNum bs = none) : Calls Try.prog 58 #[.pointer (some ⟨g, 0, none⟩)] W fun e w' => Gives w0 W g e w' := by
  have H := Aside0.mk h
  have HP := Aside0.mk hp
  clear h hp
  go_enter Try.func58, Try.ntmps58
  go_wp2_with (go_at_call 53; refine (num_none w0 _ g bs H.out HP.out).mono ?_; rintro e w1 ⟨he, hk, hb⟩; cases he; have HK := Aside0.mk hk; have HB := Aside0.mk hb; clear hk hb)
  exact ⟨rfl, rfl, HK.out, HB.out⟩
theorem place_some (w0 W : World) (g : Nat) (bs : List Int) (h : Rd w0 W g bs) (x : Int) (r : List Int) (hp : pNum bs = some (x, r)) :
    Calls Try.prog 58 #[.pointer (some ⟨g, 0, none⟩)] W fun e w' => e = .returned (.int .i64 (clamp x)) ∧ Rd w0 w' g r ∧ Kept W w' (fun k => k = g) := by
  have H := Aside0.mk h
  have HP := Aside0.mk hp
  clear h hp
  go_enter Try.func58, Try.ntmps58
  go_wp2_with (go_at_call 53; refine (num_some w0 _ g bs H.out x r HP.out).mono ?_; rintro e w1 ⟨rfl, hrd, hk⟩; have HR := Aside0.mk hrd; have HK := Aside0.mk hk; clear hk hrd)
  all_goals
    go_ret
    exact ⟨ret_int (by unfold clamp mn mx; repeat' split
                       all_goals omega), HR.out, HK.out⟩
theorem text_none (w0 W : World) (g : Nat) (bs : List Int) (h : Rd w0 W g bs) (hp : pText bs = none) : Calls Try.prog 52 #[.pointer (some ⟨g, 0, none⟩)] W fun e w' => Gives w0 W g e w' := by
  have H := Aside0.mk h
  clear h
  cases hn : pNum bs with
  | none =>
    have HN := Aside0.mk hn
    clear hn hp
    go_enter Try.func52, Try.ntmps52
    go_wp2_with (go_at_call 53; refine (num_none w0 _ g bs H.out HN.out).mono ?_; rintro e w1 ⟨he, hk, hb⟩; cases he; have HK := Aside0.mk hk; have HB := Aside0.mk hb; clear hk hb)
    exact ⟨rfl, rfl, HK.out, HB.out⟩
  | some p =>
    obtain ⟨n, r⟩ := p
    unfold pText at hp
    rw [hn] at hp
    dsimp only at hp
    by_cases hc : n < 0 ∨ (r.length : Int) < n
    · have HC := Aside0.mk hc
      have HN := Aside0.mk hn
      clear hn hp hc
      go_enter Try.func52, Try.ntmps52
      go_wp2_with (first
        | (go_at_call 53; refine (num_some w0 _ g bs H.out n r HN.out).mono ?_; rintro e w1 ⟨rfl, hrd, hk⟩; have HR := Aside0.mk hrd; have HK := Aside0.mk hk; clear hk hrd)
        | (go_at_call 50; refine (take_bad w0 _ g r n HR.out HC.out).mono ?_; rintro e w' ⟨he, rfl⟩; cases he))
      exact ⟨rfl, rfl, HK.out, HR.out.base.2.2⟩
    · rw [if_neg hc] at hp; cases hp
theorem text_some (w0 W : World) (g : Nat) (bs : List Int) (h : Rd w0 W g bs) (s : ByteArray) (r : List Int) (hp : pText bs = some (s, r)) :
    Calls Try.prog 52 #[.pointer (some ⟨g, 0, none⟩)] W fun e w' => e = .returned (.string s) ∧ Rd w0 w' g r ∧ Kept W w' (fun k => k = g) := by
  have H := Aside0.mk h
  clear h
  cases hn : pNum bs with
  | none => unfold pText at hp; rw [hn] at hp; cases hp
  | some p =>
    obtain ⟨n, q⟩ := p
    unfold pText at hp
    rw [hn] at hp
    dsimp only at hp
    by_cases hc : n < 0 ∨ (q.length : Int) < n
    · rw [if_pos hc] at hp; cases hp
    · rw [if_neg hc] at hp
      obtain ⟨m, rfl⟩ := Int.eq_ofNat_of_zero_le (show 0 ≤ n by omega)
      simp only [Option.some.injEq, Prod.mk.injEq, Int.toNat_natCast] at hp
      obtain ⟨rfl, rfl⟩ := hp
      have hm : m ≤ q.length := by omega
      have HN := Aside0.mk hn
      clear hn hc
      go_enter Try.func52, Try.ntmps52
      go_wp2_with (first
        | (go_at_call 53; refine (num_some w0 _ g bs H.out (m : Int) q HN.out).mono ?_; rintro e w1 ⟨rfl, hrd, hk⟩; have HR := Aside0.mk hrd; have HK := Aside0.mk hk; clear hk hrd)
        | (go_at_call 50; refine (take_ok w0 _ g q m HR.out hm).mono ?_; rintro e w2 ⟨A, c, rfl, hc, hr, hrd, hk⟩; have hs := Kd.C_string Try.underlying29 Try.underlying5 Try.underlying9 (Kd.C_below hr hrd.base.2.2) (c := c); have HR2 := Aside0.mk hrd; have HK2 := Aside0.mk hk; clear hk hrd hr))
      go_ret
      exact ⟨rfl, HR2.out, HK.out.then_ HK2.out (fun k h => .inl h)⟩

/-- A list of the call's own, of whole numbers (element type e). -/
abbrev Own (e : TypeId) (w0 W w : World) (v : Value) (xs : List Int) : Prop := Kd.R (Kd.int .i64) e w w0.heap.size (fun k => W.heap.size ≤ k) v xs

theorem own_apart {e : TypeId} {w0 W w : World} {v : Value} {xs bs : List Int} {g : Nat} (h : Own e w0 W w v xs) (hr : Rd w0 w g bs) (he : e ≠ 61) : Kd.R (Kd.int .i64) e w w0.heap.size (fun k => W.heap.size ≤ k ∧ k ≠ g) v xs := by
  obtain ⟨_, A, c, hh, _⟩ := hr
  exact Kd.R_types h hh (fun q hq => by simp [Kd.int, Kd.scalar] at hq; rw [hq]; exact he)
theorem own_kept {e : TypeId} {w0 W w w1 : World} {v : Value} {xs bs : List Int} {g : Nat} (h : Own e w0 W w v xs) (hr : Rd w0 w g bs) (he : e ≠ 61) (hk : Kept w w1 (fun k => k = g)) : Own e w0 W w1 v xs :=
  Kd.R_mono (Kd.R_kept (own_apart h hr he) hk (fun k h1 h2 => h1.2 h2)) (fun _ h => h.1)
theorem rd_grown {e : TypeId} {w0 W w w1 : World} {v : Value} {xs bs : List Int} {g : Nat} {o : Obj} (h : Own e w0 W w v xs) (hr : Rd w0 w g bs) (he : e ≠ 61) (hg : w.grownBy w1 v.ownBlock) (hb : Below w0.heap.size w0 w1) : Rd w0 w1 g bs := by
  have hn := Kd.R_ne h hr.2.choose_spec.choose_spec.1 he
  obtain ⟨hx, A, c, hh, hc, hrr, hg0, _⟩ := hr
  exact ⟨hx, A, c, blk_grown hh hg hn, hc, hrr, hg0, hb⟩
theorem pCount_le {bs r : List Int} {n : Nat} (h : pCount bs = some (n, r)) : n ≤ bs.length := by
  unfold pCount pNum at h
  by_cases h8 : bs.length < 8
  · rw [if_pos h8] at h; cases h
  · rw [if_neg h8] at h
    dsimp only at h
    rw [List.length_drop] at h
    by_cases hc : wrap64 (le8 bs) < 0 ∨ (((bs.length - 8) / 8 : Nat) : Int) < wrap64 (le8 bs)
    · rw [if_pos hc] at h; cases h
    · rw [if_neg hc] at h
      cases h
      omega
theorem list_some (w0 W : World) (g : Nat) (bs : List Int) (h : Rd w0 W g bs) (xs : List Int) (r : List Int) (hp : pList bs = some (xs, r)) (hlen : bs.length ≤ 1048576) :
    Calls Try.prog 57 #[.pointer (some ⟨g, 0, none⟩)] W fun e w' => ∃ v, e = .returned v ∧ Own 2 w0 W w' v xs ∧ Rd w0 w' g r ∧ Kept W w' (fun k => k = g) := by
  have H := Aside0.mk h
  clear h
  cases hn : pCount bs with
  | none => unfold pList at hp; rw [hn] at hp; cases hp
  | some p =>
    obtain ⟨n, q⟩ := p
    unfold pList at hp
    rw [hn] at hp
    dsimp only at hp
    have hnb := pCount_le hn
    have HP := Aside0.mk hp
    have HN := Aside0.mk hn
    clear hn hp
    go_enter Try.func57, Try.ntmps57
    go_wp2_with (go_at_call 51; refine (cnt_some w0 _ g bs H.out n q HN.out).mono ?_; rintro e w1 ⟨rfl, hrd, hk⟩; have HR := Aside0.mk hrd; have HK := Aside0.mk hk; clear hk hrd)
    go_loopw [3, 6] (fun v i wr => ∃ (k : Nat) (ys q' : List Int), k ≤ n ∧ i = .int .i64 k ∧ ys.length ≤ k ∧ Aside0 (∃ zs, pNums (n - k) q' = some (zs, r) ∧ xs = ys ++ zs) ∧ Aside0 (Own 2 w0 W wr v ys) ∧ Aside0 (Rd w0 wr g q') ∧ Aside0 (Kept W wr (fun k => k = g)))
      (fun _ i _ => n - (intOf i).toNat)
    case atStart => exact ⟨0, [], q, Nat.zero_le _, rfl, Nat.le_refl _, ⟨xs, HP.out, rfl⟩, ⟨Kd.R_nil _ _ _ _ _⟩, HR, HK⟩
    case round =>
      clear HR HK HP
      obtain ⟨k, ys, q', hk, rfl, hys, HP, HO, HR, HK⟩ := hrel
      by_cases hlt : k < n
      · obtain ⟨zs, hz, hxs⟩ := HP.out
        obtain ⟨m, hm⟩ : ∃ m, n - k = m + 1 := ⟨n - k - 1, by omega⟩
        rw [hm] at hz
        cases hq : pNum q' with
        | none => simp only [pNums, hq] at hz; cases hz
        | some p =>
          obtain ⟨x, q2⟩ := p
          cases hq2 : pNums m q2 with
          | none => simp only [pNums, hq, hq2] at hz; cases hz
          | some p2 =>
            obtain ⟨l, q3⟩ := p2
            simp only [pNums, hq, hq2, Option.some.injEq, Prod.mk.injEq] at hz
            obtain ⟨rfl, rfl⟩ := hz
            have HQ := Aside0.mk hq
            have HQ2 := Aside0.mk hq2
            have HX := Aside0.mk hxs
            have HM := Aside0.mk hm
            clear hq hq2 hxs HP hm
            go_wp2_with (first
              | (go_at_call 53; refine (num_some w0 _ g q' HR.out x q2 HQ.out).mono ?_; rintro e w2 ⟨rfl, hrd, hk2⟩; have HO2 := Aside0.mk (own_kept HO.out HR.out (by decide) hk2); have HK2 := Aside0.mk (HK.out.then_ hk2 (fun _ h => .inl h)); have HR2 := Aside0.mk hrd; clear hk2 hrd)
              | (at_builtin; refine Kd.R_append (Kd.int .i64) (w0 := w0) w0.heap.size rfl (.tmp 8) (.tmp 11) 40 2 (.int .i64 0) 8 rfl Try.underlying40 info2 rfl (by decide) (by omega) u3 ys x [.int .i64 x] (fun k => W.heap.size ≤ k) (fun _ => False) rfl rfl ?aP (fun _ hk => hk.elim) ?aF ?aO ?aB ?aS ?aL ?_; (case aP => exact rfl); (case aF => exact (fun k h => Nat.le_trans HK2.out.1 h)); (case aO => exact HO2.out); (case aB => exact HR2.out.base.2.2); (case aS => exact HR2.out.base.2.2.size); (case aL => omega); intro v1 w3 ho hb hg hat; have HO3 := Aside0.mk ho; have HR3 := Aside0.mk (rd_grown (o := .map #[] 0) HO2.out HR2.out (by decide) hg hb); have HK3 := Aside0.mk (Kept.of_grown hg HK2.out (fun k e => .inr (HO2.out.1 k e))); clear ho hb hg hat))
            go_roundw
            case rel => exact ⟨k + 1, ys ++ [x], q2, by omega, by go_num, by simp; omega, ⟨l, by rw [show n - (k + 1) = m by have := HM.out; omega]; exact HQ2.out, by rw [HX.out]; simp⟩, HO3, HR3, HK3⟩
            case measure => simp [intOf]; omega
      · go_wp2
        go_ret
        obtain ⟨zs, hz, hxs⟩ := HP.out
        rw [show n - k = 0 by omega] at hz
        cases hz
        rw [List.append_nil] at hxs
        subst hxs
        exact ⟨_, rfl, HO.out, HR.out, HK.out⟩

theorem list_none (w0 W : World) (g : Nat) (bs : List Int) (h : Rd w0 W g bs) (hp : pList bs = none) (hlen : bs.length ≤ 1048576) : Calls Try.prog 57 #[.pointer (some ⟨g, 0, none⟩)] W fun e w' => Gives w0 W g e w' := by
  have H := Aside0.mk h
  clear h
  cases hn : pCount bs with
  | none =>
    have HN := Aside0.mk hn
    clear hn hp
    go_enter Try.func57, Try.ntmps57
    go_wp2_with (go_at_call 51; refine (cnt_none w0 _ g bs H.out HN.out).mono ?_; rintro e w1 ⟨he, hk, hb⟩; cases he; have HK := Aside0.mk hk; have HB := Aside0.mk hb; clear hk hb)
    exact ⟨rfl, rfl, HK.out, HB.out⟩
  | some p =>
    obtain ⟨n, q⟩ := p
    unfold pList at hp
    rw [hn] at hp
    dsimp only at hp
    have hnb := pCount_le hn
    have HP := Aside0.mk hp
    have HN := Aside0.mk hn
    clear hn hp
    go_enter Try.func57, Try.ntmps57
    go_wp2_with (go_at_call 51; refine (cnt_some w0 _ g bs H.out n q HN.out).mono ?_; rintro e w1 ⟨rfl, hrd, hk⟩; have HR := Aside0.mk hrd; have HK := Aside0.mk hk; clear hk hrd)
    go_loopw [3, 6] (fun v i wr => ∃ (k : Nat) (ys q' : List Int), k ≤ n ∧ i = .int .i64 k ∧ ys.length ≤ k ∧ Aside0 (pNums (n - k) q' = none) ∧ Aside0 (Own 2 w0 W wr v ys) ∧ Aside0 (Rd w0 wr g q') ∧ Aside0 (Kept W wr (fun k => k = g)))
      (fun _ i _ => n - (intOf i).toNat)
    case atStart => exact ⟨0, [], q, Nat.zero_le _, rfl, Nat.le_refl _, HP, ⟨Kd.R_nil _ _ _ _ _⟩, HR, HK⟩
    case round =>
      clear HR HK HP
      obtain ⟨k, ys, q', hk, rfl, hys, HP, HO, HR, HK⟩ := hrel
      have hlt : k < n := by
        rcases Nat.lt_or_ge k n with h | h
        · exact h
        · have hz := HP.out
          rw [show n - k = 0 by omega] at hz
          cases hz
      have hz := HP.out
      obtain ⟨m, hm⟩ : ∃ m, n - k = m + 1 := ⟨n - k - 1, by omega⟩
      rw [hm] at hz
      cases hq : pNum q' with
      | none =>
        have HQ := Aside0.mk hq
        clear hq hz HP hm
        go_wp2_with (go_at_call 53; refine (num_none w0 _ g q' HR.out HQ.out).mono ?_; rintro e w2 ⟨he, hk2, hb2⟩; cases he; have HK2 := Aside0.mk (HK.out.then_ hk2 (fun _ h => .inl h)); have HB2 := Aside0.mk hb2; clear hk2 hb2)
        exact ⟨rfl, rfl, HK2.out, HB2.out⟩
      | some p =>
        obtain ⟨x, q2⟩ := p
        have hq2 : pNums m q2 = none := by
          cases h : pNums m q2 with
          | none => rfl
          | some p2 => simp only [pNums, hq, h] at hz; cases hz
        have HQ := Aside0.mk hq
        have HQ2 := Aside0.mk hq2
        have HM := Aside0.mk hm
        clear hq hq2 hz HP hm
        go_wp2_with (first
          | (go_at_call 53; refine (num_some w0 _ g q' HR.out x q2 HQ.out).mono ?_; rintro e w2 ⟨rfl, hrd, hk2⟩; have HO2 := Aside0.mk (own_kept HO.out HR.out (by decide) hk2); have HK2 := Aside0.mk (HK.out.then_ hk2 (fun _ h => .inl h)); have HR2 := Aside0.mk hrd; clear hk2 hrd)
          | (at_builtin; refine Kd.R_append (Kd.int .i64) (w0 := w0) w0.heap.size rfl (.tmp 8) (.tmp 11) 40 2 (.int .i64 0) 8 rfl Try.underlying40 info2 rfl (by decide) (by omega) u3 ys x [.int .i64 x] (fun k => W.heap.size ≤ k) (fun _ => False) rfl rfl ?aP (fun _ hk => hk.elim) ?aF ?aO ?aB ?aS ?aL ?_; (case aP => exact rfl); (case aF => exact (fun k h => Nat.le_trans HK2.out.1 h)); (case aO => exact HO2.out); (case aB => exact HR2.out.base.2.2); (case aS => exact HR2.out.base.2.2.size); (case aL => omega); intro v1 w3 ho hb hg hat; have HO3 := Aside0.mk ho; have HR3 := Aside0.mk (rd_grown (o := .map #[] 0) HO2.out HR2.out (by decide) hg hb); have HK3 := Aside0.mk (Kept.of_grown hg HK2.out (fun k e => .inr (HO2.out.1 k e))); clear ho hb hg hat))
        go_roundw
        case rel => exact ⟨k + 1, ys ++ [x], q2, by omega, by go_num, by simp; omega, ⟨by rw [show n - (k + 1) = m by have := HM.out; omega]; exact HQ2.out⟩, HO3, HR3, HK3⟩
        case measure => simp [intOf]; omega
end Go.Proofs.Ytmjafkhkoifopaa.C16
end
section
/- The reader of code: an instruction. -/
namespace Go.Proofs.Ytmjafkhkoifopaa.C16
open Go.RowKit Go.Proofs.YtmjafkhkoifopaaW.PrintWords Go.Proofs.YtmjafkhkoifopaaW.PrintLast Go.Proofs.YtmjafkhkoifopaaW.PrintMore Go.Proofs.Ytmjafkhkoifopaa.PCodeDecodes
set_option linter.unusedVariables false
set_option linter.unusedSimpArgs false
theorem info3 : (Try.prog.info? 3).map (fun i => (i.zero, i.size, i.bytes)) = some (some (.int .i64 0), 1, 8) := by kernel_rfl
theorem max2_mx (k k' : IntKind) (x y : Int) : Builtin.max2 (.int k x) (.int k' y) = pure (.int k (mx x y)) := max2_int k k' x y
theorem min2_mn (k k' : IntKind) (x y : Int) : Builtin.min2 (.int k x) (.int k' y) = pure (.int k (mn x y)) := min2_int k k' x y
attribute [local go_sem] max2_mx min2_mn max_two min_two   -- for this text's walks alone

/-- Where the reader of an instruction stands: the reader g has q before it; the instruction's cells lie in b. -/
structure St (w0 W w : World) (g a b : Nat) (q : List Int) (cells : Array Value) : Prop where
  rd : Rd w0 w g q
  kept : Kept W w (fun k => k = g)
  blk : w.heap[b]? = some (.cells cells 43 (0, 0))
  res : w.heap[a]? = some (.cells #[.int .i64 0, .int .i64 0, .int .i64 0, .slice none 0 0, .slice none 0 0, .slice none 0 0] 43 (0, 0))
  new : W.heap.size ≤ b
  ne : a ≠ b
theorem St.cells {w0 W w : World} {g a b : Nat} {q : List Int} {cells : Array Value} (h : St w0 W w g a b q cells) : (∀ j, w.cell? ⟨b, j, none⟩ = cells[j]?) ∧ (∀ j, w.frozen? ⟨b, j, none⟩ = false) :=
  ⟨fun j => blk_cell h.blk j, fun j => blk_frozen h.blk j⟩
theorem Rd.ne {w0 w : World} {g b : Nat} {q : List Int} {cells : Array Value} {t : TypeId} (h : Rd w0 w g q) (hb : w.heap[b]? = some (.cells cells t (0, 0))) (ht : t ≠ 61) : b ≠ g := by
  obtain ⟨_, A, c, hh, _⟩ := h
  exact blk_ne hb hh ht
theorem Rd.far {w0 w : World} {g : Nat} {q : List Int} (h : Rd w0 w g q) {p : Addr} (hp : p.block ≠ g) (hw : w0.heap.size ≤ p.block) (v : Value) : Rd w0 (w.setCell p v) g q := by
  obtain ⟨hx, A, c, hh, hc, hr, hg, hb⟩ := h
  exact ⟨hx, A, c, blk_far hh (fun e => hp e.symm) v, hc, hr, hg, hb.setCell hw v⟩
theorem St.call {w0 W w w' : World} {g a b : Nat} {q q' : List Int} {cells : Array Value} (h : St w0 W w g a b q cells) (hr : Rd w0 w' g q') (hk : Kept w w' (fun k => k = g)) : St w0 W w' g a b q' cells :=
  ⟨hr, h.kept.then_ hk (fun _ e => .inl e), blk_kept h.blk hk (h.rd.ne h.blk (by decide)), blk_kept h.res hk (h.rd.ne h.res (by decide)), h.new, h.ne⟩
theorem St.store {w0 W w : World} {g a b : Nat} {q : List Int} {cells : Array Value} (h : St w0 W w g a b q cells) (hW : w0.heap.size ≤ W.heap.size) (j : Nat) (v : Value) : St w0 W (w.setCell ⟨b, j, none⟩ v) g a b q (cells.setIfInBounds j v) :=
  ⟨h.rd.far (h.rd.ne h.blk (by decide)) (Nat.le_trans hW h.new) v, h.kept.setCell (.inr h.new) v, blk_set h.blk j v, blk_far h.res h.ne v, h.new, h.ne⟩
theorem own_store {e : TypeId} {w0 W w : World} {v : Value} {xs : List Int} {b : Nat} {cells : Array Value} (h : Own e w0 W w v xs) (hb : w.heap[b]? = some (.cells cells 43 (0, 0))) (he : e ≠ 43) (j : Nat) (u : Value) : Own e w0 W (w.setCell ⟨b, j, none⟩ u) v xs :=
  Kd.R_set h hb (fun q hq => by simp [Kd.int, Kd.scalar] at hq; rw [hq]; exact he) j u
theorem St.grown {e : TypeId} {w0 W w w1 : World} {g a b : Nat} {q : List Int} {cells : Array Value} {v : Value} {xs : List Int} (h : St w0 W w g a b q cells) (ho : Own e w0 W w v xs) (he : e ≠ 61) (he' : e ≠ 43) (hg : w.grownBy w1 v.ownBlock) (hb : Below w0.heap.size w0 w1) : St w0 W w1 g a b q cells :=
  ⟨rd_grown (o := .map #[] 0) ho h.rd he hg hb, Kept.of_grown hg h.kept (fun k e => .inr (ho.1 k e)), blk_grown h.blk hg (Kd.R_ne ho h.blk he'), blk_grown h.res hg (Kd.R_ne ho h.res he'), h.new, h.ne⟩

theorem Rd.alloc {w0 w : World} {g : Nat} {q : List Int} (h : Rd w0 w g q) (o : Obj) : Rd w0 (w.alloc o) g q := by
  obtain ⟨hx, A, c, hh, hc, hr, hg, hb⟩ := h
  exact ⟨hx, A, c, blk_alloc hh _, hc, hr, hg, hb.alloc hb.size _⟩
def opOf (x : Int) : Int := mn (mx x 0) 1000
theorem St.start {w0 W w1 : World} {g : Nat} {q : List Int} {bs : List Int} (h : Rd w0 W g bs) (hr : Rd w0 w1 g q) (hk : Kept (W.alloc (.cells #[.int .i64 0, .int .i64 0, .int .i64 0, .slice none 0 0, .slice none 0 0, .slice none 0 0] 43)) w1 (fun k => k = g)) (op : Int) :
    St w0 W (w1.alloc (.cells #[.int .i64 op, .int .i64 0, .int .i64 0, .slice none 0 0, .slice none 0 0, .slice none 0 0] 43)) g W.heap.size w1.heap.size q #[.int .i64 op, .int .i64 0, .int .i64 0, .slice none 0 0, .slice none 0 0, .slice none 0 0] := by
  have h1 : Kept W w1 (fun k => k = g) := (Kept.alloc (Kept.refl _ _) _).then_ hk (fun _ e => .inl e)
  have hs : W.heap.size < w1.heap.size := by have := hk.1; simp at this; omega
  obtain ⟨hg0, hg1, _⟩ := h.base
  have hne : W.heap.size ≠ g := by omega
  refine ⟨?_, h1.alloc _, blk_new _ _, blk_alloc (blk_kept (blk_new _ _) hk hne) _, by omega, by omega⟩
  obtain ⟨hx, A, c, hh, hc, hrr, hg, hb⟩ := hr
  exact ⟨hx, A, c, blk_alloc hh _, hc, hrr, hg, hb.alloc hb.size _⟩

theorem Rd.drewN {w0 w : World} {g : Nat} {q : List Int} (h : Rd w0 w g q) (n : Nat) : Rd w0 (w.drewN n) g q := by
  obtain ⟨hx, A, c, hh, hc, hr, hg, hb⟩ := h
  exact ⟨hx, A, c, hh, hc, hr, hg, pw_below_drewN hb n⟩
theorem St.drewN {w0 W w : World} {g a b : Nat} {q : List Int} {cells : Array Value} (h : St w0 W w g a b q cells) (n : Nat) : St w0 W (w.drewN n) g a b q cells :=
  ⟨h.rd.drewN n, h.kept, h.blk, h.res, h.new, h.ne⟩
theorem St.drew {w0 W w : World} {g a b : Nat} {q : List Int} {cells : Array Value} (h : St w0 W w g a b q cells) : St w0 W w.drew g a b q cells := h.drewN 1
theorem own_grown {e e' : TypeId} {w0 W w w1 : World} {v u : Value} {xs ys : List Int} (h : Own e w0 W w v xs) (ho : Own e' w0 W w u ys) (he : e ≠ e') (hg : w.grownBy w1 u.ownBlock) : Own e w0 W w1 v xs :=
  Kd.R_mono (Kd.R_grown (Kd.R_apart' h (Kd.R_typed ho) (fun q hq => by simp [Kd.int, Kd.scalar] at hq; rw [hq]; exact he)) hg (fun k hk e_ => hk.2 e_)) (fun _ h => h.1)
theorem pNum_len {bs r : List Int} {x : Int} (h : pNum bs = some (x, r)) : r.length ≤ bs.length := by
  unfold pNum at h
  split at h
  · cases h
  · cases h; rw [List.length_drop]; omega
theorem pCount_len {bs r : List Int} {n : Nat} (h : pCount bs = some (n, r)) : r.length ≤ bs.length := by
  unfold pCount at h
  split at h
  · cases h
  · rename_i m q e
    split at h
    · cases h
    · cases h; exact pNum_len e
theorem pNums_len : ∀ (n : Nat) {bs r l : List Int}, pNums n bs = some (l, r) → r.length ≤ bs.length
  | 0, bs, r, l, h => by simp only [pNums] at h; cases h; omega
  | n + 1, bs, r, l, h => by
    simp only [pNums] at h
    split at h
    · cases h
    · rename_i x q e
      split at h
      · cases h
      · rename_i l' r' e'
        cases h
        have := pNums_len n e'
        have := pNum_len e
        omega
theorem pList_len {bs r l : List Int} (h : pList bs = some (l, r)) : r.length ≤ bs.length := by
  unfold pList at h
  split at h
  · cases h
  · rename_i n q e
    have := pCount_len e
    have := pNums_len n h
    omega
theorem own_far43 {e : TypeId} {w0 W w : World} {v : Value} {xs : List Int} {a : Nat} (h : Own e w0 W w v xs ∧ ∃ cs, w.heap[a]? = some (.cells cs 43 (0, 0))) (he : e ≠ 43) (j : Nat) (u : Value) : Own e w0 W (w.setCell ⟨a, j, none⟩ u) v xs ∧ ∃ cs, (w.setCell ⟨a, j, none⟩ u).heap[a]? = some (.cells cs 43 (0, 0)) := by
  obtain ⟨h1, cs, h2⟩ := h
  exact ⟨own_store h1 h2 he j u, _, blk_set h2 j u⟩
theorem own_final {e : TypeId} {w0 W w : World} {v : Value} {xs : List Int} {g a b : Nat} {q : List Int} {cells : Array Value} {u0 u1 u2 u3 u4 u5 : Value} (h : Own e w0 W w v xs) (hs : St w0 W w g a b q cells) (he : e ≠ 43) :
    Own e w0 W ((((((w.setCell ⟨a, 0, none⟩ u0).setCell ⟨a, 1, none⟩ u1).setCell ⟨a, 2, none⟩ u2).setCell ⟨a, 3, none⟩ u3).setCell ⟨a, 4, none⟩ u4).setCell ⟨a, 5, none⟩ u5) v xs :=
  (own_far43 (own_far43 (own_far43 (own_far43 (own_far43 (own_far43 ⟨h, _, hs.res⟩ he 0 u0) he 1 u1) he 2 u2) he 3 u3) he 4 u4) he 5 u5).1
theorem St.final {w0 W w : World} {g b : Nat} {q : List Int} {cells : Array Value} {u0 u1 u2 u3 u4 u5 : Value} (h : St w0 W w g W.heap.size b q cells) (hW : w0.heap.size ≤ W.heap.size) :
    Rd w0 ((((((w.setCell ⟨W.heap.size, 0, none⟩ u0).setCell ⟨W.heap.size, 1, none⟩ u1).setCell ⟨W.heap.size, 2, none⟩ u2).setCell ⟨W.heap.size, 3, none⟩ u3).setCell ⟨W.heap.size, 4, none⟩ u4).setCell ⟨W.heap.size, 5, none⟩ u5) g q ∧
    Kept W ((((((w.setCell ⟨W.heap.size, 0, none⟩ u0).setCell ⟨W.heap.size, 1, none⟩ u1).setCell ⟨W.heap.size, 2, none⟩ u2).setCell ⟨W.heap.size, 3, none⟩ u3).setCell ⟨W.heap.size, 4, none⟩ u4).setCell ⟨W.heap.size, 5, none⟩ u5) (fun k => k = g) := by
  have hne := h.rd.ne h.res (by decide)
  have hl : W.heap.size ≤ W.heap.size := Nat.le_refl _
  exact ⟨(((((h.rd.far (p := ⟨W.heap.size, 0, none⟩) hne hW u0).far (p := ⟨W.heap.size, 1, none⟩) hne hW u1).far (p := ⟨W.heap.size, 2, none⟩) hne hW u2).far (p := ⟨W.heap.size, 3, none⟩) hne hW u3).far (p := ⟨W.heap.size, 4, none⟩) hne hW u4).far (p := ⟨W.heap.size, 5, none⟩) hne hW u5,
    (((((h.kept.setCell (p := ⟨W.heap.size, 0, none⟩) (.inr hl) u0).setCell (p := ⟨W.heap.size, 1, none⟩) (.inr hl) u1).setCell (p := ⟨W.heap.size, 2, none⟩) (.inr hl) u2).setCell (p := ⟨W.heap.size, 3, none⟩) (.inr hl) u3).setCell (p := ⟨W.heap.size, 4, none⟩) (.inr hl) u4).setCell (p := ⟨W.heap.size, 5, none⟩) (.inr hl) u5⟩
theorem ins_first_none (w0 W : World) (g : Nat) (bs : List Int) (h : Rd w0 W g bs) (hp : pNum bs = none) : Calls Try.prog 54 #[.pointer (some ⟨g, 0, none⟩)] W fun e w' => Gives w0 W g e w' := by
  have H := Aside0.mk h
  have HP := Aside0.mk hp
  clear h hp
  go_enter Try.func54, Try.ntmps54
  go_wp2_with (go_at_call 53; refine (num_none w0 _ g bs (H.out.alloc _) HP.out).mono ?_; rintro e w1 ⟨he, hk, hb⟩; cases he; have HK := Aside0.mk ((Kept.alloc (Kept.refl W (fun k => k = g)) _).then_ hk (fun _ e_ => .inl e_)); have HB := Aside0.mk hb; clear hk hb)
  exact ⟨rfl, rfl, HK.out, HB.out⟩
theorem ins_neg (w0 W : World) (g : Nat) (bs : List Int) (h : Rd w0 W g bs) (x : Int) (q0 : List Int) (h0 : pNum bs = some (x, q0)) (hf : fieldsOf (opOf x) = -1) : Calls Try.prog 54 #[.pointer (some ⟨g, 0, none⟩)] W fun e w' => Gives w0 W g e w' := by
  have H := Aside0.mk h
  have H0 := Aside0.mk h0
  have Hf := Aside0.mk hf
  clear h h0 hf
  go_enter Try.func54, Try.ntmps54
  go_wp2_with (first
    | (go_at_call 53; (with_reducible refine (num_some w0 _ g bs (H.out.alloc _) x q0 H0.out).mono ?_); rintro e w1 ⟨rfl, hrd, hk⟩; have HS0 := Aside0.mk (St.start H.out hrd hk (opOf x)); clear hrd hk)
    | (go_at_call 28; refine (fields_is _ (-1) Hf.out _).mono ?_; rintro e w' ⟨rfl, ⟨n1, rfl⟩⟩; have HS1 := Aside0.mk (HS0.out.drewN n1); clear HS0))
  exact ⟨rfl, rfl, HS1.out.kept, HS1.out.rd.base.2.2⟩
end Go.Proofs.Ytmjafkhkoifopaa.C16
end
