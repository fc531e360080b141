import Derived.Test.YtmjafkhkoifopaaVM1
import Derived.Test.YtmjafkhkoifopaaVM2
import Derived.Maps.OwnSet
import Derived.Maps.Views
section
/- code.exns: a map of the names that were seen. -/
namespace Go.Proofs.Ytmjafkhkoifopaa.C16
open Go.RowKit Go.Proofs.YtmjafkhkoifopaaW.PrintWords Go.Proofs.YtmjafkhkoifopaaW.PrintLast Go.Proofs.YtmjafkhkoifopaaW.PrintMore Go.Proofs.Ytmjafkhkoifopaa.PCodeDecodes
open Go.WideMaps
set_option linter.unusedVariables false
set_option linter.unusedSimpArgs false

theorem law9 : Maps.Keyed Try.prog 9 := Maps.string_keyed Try.underlying9
theorem zero4 (w : World) : (zeroValue 4).run Try.prog w = .ok (.bool false) w := by kernel_rfl

abbrev first6 : List ByteArray := [⟨#[77, 97, 116, 99, 104, 95, 102, 97, 105, 108, 117, 114, 101]⟩, ⟨#[68, 105, 118, 105, 115, 105, 111, 110, 95, 98, 121, 95, 122, 101, 114, 111]⟩, ⟨#[73, 110, 118, 97, 108, 105, 100, 95, 97, 114, 103, 117, 109, 101, 110, 116]⟩, ⟨#[69, 110, 100, 95, 111, 102, 95, 102, 105, 108, 101]⟩, ⟨#[78, 111, 116, 95, 102, 111, 117, 110, 100]⟩, ⟨#[70, 97, 105, 108, 117, 114, 101]⟩]

theorem lookup_bool {w : World} {b n : Nat} {D : DataW Unit} (h : w.ownsMap Try.prog 9 (plainElem Try.prog 4) b n D) (s : ByteArray) (hs : s.size ≤ maxLen) :
    ∃ x, (Instr.lookup 73 (.map (some b)) (.string s) false).run Try.prog w = .ok (.bool x) w ∧ D.atKey (.string s.data.toList) (.lit (.bool false)) = .lit (.bool x) := by
  obtain ⟨v, ps, hrun, hv⟩ := h.lookup law9 Try.underlying73 (zero4 _) (plainElem_bool Try.underlying4 false) (keyOf_string_mk Try.underlying9 hs)
  unfold plainElem at hv
  rw [Try.underlying4] at hv
  cases v <;> simp at hv
  rename_i x
  exact ⟨x, hrun, by rw [← hv.1]⟩

theorem exns_small (A : Option Addr) (c : Nat) (l0 : List S45) (w : World) (hr : Kd.C k45 w A l0.length l0) (hc : l0.length ≤ c) (h6 : l0.length < 6 ∨ 200 < l0.length) :
    Calls Try.prog 19 #[.slice A l0.length c] w fun e w' => e = .returned (.bool false) ∧ Below w.heap.size w w' := by
  have hm := hr.2.1
  clear hr
  rcases h6 with h6 | h6
  · go_enter Try.func19, Try.ntmps19
    go_wp2
    go_ret
    exact ⟨rfl, by repeat (first | exact Below.refl _ _ | apply below_alloc | apply pw_below_drewN | apply below_drew)⟩
  · go_enter Try.func19, Try.ntmps19
    go_wp2
    go_ret
    exact ⟨rfl, by repeat (first | exact Below.refl _ _ | apply below_alloc | apply pw_below_drewN | apply below_drew)⟩


def nm (l0 : List S45) (k : Nat) : ByteArray := (rd_T45 l0 k).f0
def exnOk (l0 : List S45) (k : Nat) : Prop :=
  (nm l0 k).toList.isEmpty = false ∧ (nm l0 k).size ≤ 4096 ∧ (∀ j, j < k → nm l0 j ≠ nm l0 k) ∧ (k < 6 → nm l0 k = first6.getD k ByteArray.empty ∧ (rd_T45 l0 k).f1 = (decide (k = 5)))
def seenIs (l0 : List S45) (k : Nat) (D : DataW Unit) : Prop := ∀ s : List UInt8, D.atKey (.string s) (.lit (.bool false)) = .lit (.bool (decide (∃ j, j < k ∧ (nm l0 j).data.toList = s)))
def firstBlock (wr : World) (b : Nat) : Prop := ∀ k, k < 6 → wr.cell? ⟨b, k, none⟩ = some (.string (first6.getD k ByteArray.empty))

theorem bytes_ext {a b : ByteArray} (h : a.data.toList = b.data.toList) : a = b := by
  cases a; cases b
  simp only [ByteArray.mk.injEq]
  exact Array.ext' h
theorem bytes_ne {a b : ByteArray} (h : a ≠ b) : (a.toList == b.toList) = false := by
  rw [beq_eq_false_iff_ne]
  intro e
  rw [ByteArray.toList_eq, ByteArray.toList_eq] at e
  exact h (bytes_ext e)
theorem exns_step {l0 : List S45} {w wr w1 : World} {k n : Nat} {x : S45} {D : DataW Unit} {o : Obj} (hx : x = rd_T45 l0 (k : Int))
    (hown : wr.ownsMap Try.prog 9 (plainElem (H := Unit) Try.prog 4) (w.heap.size + 1) k D) (hbel : Below w.heap.size w wr) (hlt : k < l0.length) (hs : seenIs l0 k D) (hf : firstBlock wr w.heap.size)
    (hb : ∀ j, j < k → exnOk l0 j) (hk : exnOk l0 k) (hown1 : w1.ownsMap Try.prog 9 (plainElem (H := Unit) Try.prog 4) (w.heap.size + 1) (k + 1) (D.put (.string x.f0.data.toList) (.lit (.bool true))))
    (hgrow1 : ((wr.alloc o).drewN n).grownBy w1 (some (w.heap.size + 1))) :
    (∃ D, w1.ownsMap Try.prog 9 (plainElem (H := Unit) Try.prog 4) (w.heap.size + 1) (k + 1) D ∧ Aside0 (seenIs l0 (k + 1) D)) ∧ Below w.heap.size w w1 ∧ Aside0 (firstBlock w1 w.heap.size) ∧ Aside0 (∀ j, j < k + 1 → exnOk l0 j) := by
  refine ⟨⟨_, hown1, ⟨fun s => ?_⟩⟩, (pw_below_drewN (below_alloc hbel o) n).grown hgrow1 (by simp; have := hbel.size; omega) (fun j hj => by cases hj; omega), ⟨fun j hj => ?_⟩, ⟨fun j hj => ?_⟩⟩
  · by_cases e : x.f0.data.toList = s
    · subst e
      rw [Maps.atKey_put_same hown.isMap (show WideAt.IsKeyLit (.string x.f0.data.toList) from trivial)]
      have : ∃ j, j < k + 1 ∧ (nm l0 j).data.toList = x.f0.data.toList := ⟨k, by omega, by unfold nm; rw [← hx]⟩
      rw [decide_eq_true this]
    · rw [Maps.atKey_put_other (by intro h; injection h with h; exact e h.symm), hs s]
      congr 2
      rw [decide_eq_decide]
      constructor
      · rintro ⟨j, hj, h⟩
        exact ⟨j, by omega, h⟩
      · rintro ⟨j, hj, h⟩
        rcases Nat.lt_or_ge j k with h1 | h1
        · exact ⟨j, h1, h⟩
        · obtain rfl : j = k := by omega
          unfold nm at h
          rw [← hx] at h
          exact absurd h e
  · have h1 := hf j hj
    have hl : w.heap.size < wr.heap.size := World.block_lt_of_cell? _ _ h1
    rw [World.grownBy.cell_far hgrow1 ⟨w.heap.size, j, none⟩ (by simp; omega) (by simp)]
    exact pw_cell_below (pw_below_drewN (below_alloc (Below.refl _ _) o) n) h1
  · rcases Nat.lt_or_ge j k with h1 | h1
    · exact hb j h1
    · obtain rfl : j = k := by omega
      exact hk
set_option maxRecDepth 100000 in
set_option maxHeartbeats 1000000 in
theorem exns_loop (A : Option Addr) (c : Nat) (l0 : List S45) (w : World) (hr : Kd.C k45 w A l0.length l0) (hc : l0.length ≤ c) (h6 : 6 ≤ l0.length) (h200 : l0.length ≤ 200) :
    Calls Try.prog 19 #[.slice A l0.length c] w fun e w' => ((e = .returned (.bool true) ∧ ∀ k, k < l0.length → exnOk l0 k) ∨ (e = .returned (.bool false) ∧ ∃ k, k < l0.length ∧ ¬ exnOk l0 k)) ∧ Below w.heap.size w w' := by
  have HR := Aside0.mk hr
  have hm := hr.2.1
  have hmm := @run_makeMap Try.prog
  have g6 : decide ((l0.length : Int) < 6) = false := decide_eq_false (by omega)
  have g200 : decide (200 < (l0.length : Int)) = false := decide_eq_false (by omega)
  clear hr
  go_enter Try.func19, Try.ntmps19
  go_wp2
  go_loopw [21] (fun i wr => ∃ k : Nat, k ≤ l0.length ∧ i = .int .i64 k ∧ (∃ D, wr.ownsMap Try.prog 9 (plainElem (H := Unit) Try.prog 4) (w.heap.size + 1) k D ∧ Aside0 (seenIs l0 k D)) ∧ Below w.heap.size w wr ∧ Aside0 (firstBlock wr w.heap.size) ∧ Aside0 (∀ j, j < k → exnOk l0 j))
    (fun i _ => l0.length - (intOf i).toNat)
  case atStart =>
    refine ⟨0, Nat.zero_le _, rfl, ⟨_, by have h_ := fun o : Obj => World.ownsMap_made (H := Unit) (w.alloc o) Try.prog 9 (plainElem Try.prog 4); simp only [World.size_alloc] at h_; exact h_ _, ⟨?_⟩⟩, below_alloc (below_alloc (Below.refl _ _) _) _, ⟨?_⟩, ⟨fun j h => absurd h (by omega)⟩⟩
    · intro s; simp [DataW.atKey]
    · intro k hk
      match k, hk with
      | 0, _ => simp [go_sem]
      | 1, _ => simp [go_sem]
      | 2, _ => simp [go_sem]
      | 3, _ => simp [go_sem]
      | 4, _ => simp [go_sem]
      | 5, _ => simp [go_sem]
  case round =>
    obtain ⟨k, hk, rfl, ⟨D, hown, HS⟩, hbel, HF, HB⟩ := hrel
    by_cases hlt : k < l0.length
    · obtain ⟨ad, rfl, hc0, hc1⟩ := at_T45 (Kd.C_below HR.out hbel) k (by omega) (by omega)
      simp only [Int.toNat_natCast] at hc0 hc1
      obtain ⟨x, hx⟩ : ∃ x, x = rd_T45 l0 (k : Int) := ⟨_, rfl⟩
      rw [← hx] at hc0 hc1
      have HX := Aside0.mk hx
      clear hx
      by_cases c1 : x.f0.toList.isEmpty = true
      · go_wp2
        go_quiet (fail)
        go_wp2
        go_ret
        refine ⟨.inr ⟨rfl, k, hlt, fun h => ?_⟩, ?_⟩
        · have h1 := h.1
          unfold nm at h1
          rw [← HX.out, c1] at h1
          cases h1
        · repeat (first | exact hbel | apply below_alloc | apply pw_below_drewN | apply below_drew)
      · replace c1 : x.f0.toList.isEmpty = false := by simpa using c1
        by_cases c2 : 4096 < x.f0.size
        · have c2b : decide ((4096 : Int) < x.f0.size) = true := decide_eq_true (by omega)
          go_wp2
          go_quiet (fail)
          go_wp2
          go_ret
          refine ⟨.inr ⟨rfl, k, hlt, fun h => ?_⟩, ?_⟩
          · have h1 := h.2.1
            unfold nm at h1
            rw [← HX.out] at h1
            omega
          · repeat (first | exact hbel | apply below_alloc | apply pw_below_drewN | apply below_drew)
        · have c2b : decide ((4096 : Int) < x.f0.size) = false := decide_eq_false (by omega)
          have hsz : x.f0.size ≤ maxLen := by unfold maxLen; omega
          have hown1 : ∀ o n, ((wr.alloc o).drewN n).ownsMap Try.prog 9 (plainElem (H := Unit) Try.prog 4) (w.heap.size + 1) k D := fun o n => hown.alloc o
          obtain ⟨b, hb⟩ : ∃ b, D.atKey (.string x.f0.data.toList) (.lit (.bool false)) = .lit (.bool b) := ⟨_, HS.out _⟩
          have hlook : ∀ o n, (Instr.lookup 73 (.map (some (w.heap.size + 1))) (.string x.f0) false).run Try.prog ((wr.alloc o).drewN n) = .ok (.bool b) ((wr.alloc o).drewN n) := fun o n => by
            obtain ⟨x', h1, h2⟩ := lookup_bool (hown1 o n) x.f0 hsz
            rw [hb] at h2
            cases h2
            exact h1
          have HB' := Aside0.mk hb
          have HO1 := Aside0.mk hown1
          clear hb hown1
          cases b with
          | true =>
            go_wp2
            go_quiet (fail)
            go_wp2
            go_ret
            refine ⟨.inr ⟨rfl, k, hlt, fun h => ?_⟩, ?_⟩
            · have h1 := (HS.out x.f0.data.toList).symm.trans HB'.out
              simp only [DataW.lit.injEq, Lit.bool.injEq, decide_eq_true_eq] at h1
              obtain ⟨j, hj, h1⟩ := h1
              have h2 := h.2.2.1 j hj
              unfold nm at h2 h1
              rw [← HX.out] at h2
              exact h2 (bytes_ext h1)
            · repeat (first | exact hbel | apply below_alloc | apply pw_below_drewN | apply below_drew)
          | false =>
            have HN : Aside0 (∀ j, j < k → nm l0 j ≠ x.f0) := ⟨fun j hj e => by
              have h1 := (HS.out x.f0.data.toList).symm.trans HB'.out
              simp only [DataW.lit.injEq, Lit.bool.injEq, decide_eq_false_iff_not] at h1
              exact h1 ⟨j, hj, by rw [e]⟩⟩
            by_cases c4 : k < 6
            · have c4b : decide ((k : Int) < 6) = true := decide_eq_true (by omega)
              obtain ⟨f, hf⟩ : ∃ f, f = first6.getD k ByteArray.empty := ⟨_, rfl⟩
              have hcf : ∀ o n, ((wr.alloc o).drewN n).cell? ⟨w.heap.size, k, none⟩ = some (.string f) := fun o n => by
                rw [hf]
                have h1 := HF.out k c4
                exact pw_cell_below (pw_below_drewN (below_alloc (Below.refl _ _) o) n) h1
              have HFE := Aside0.mk hf
              clear hf
              by_cases c5 : x.f0 = f
              · have c5a : (x.f0.toList == f.toList) = true := by simp [c5]
                obtain ⟨b1, hb1⟩ : ∃ b, x.f1 = b := ⟨_, rfl⟩
                obtain ⟨b5, hb5⟩ : ∃ b, ((k : Int) == 5) = b := ⟨_, rfl⟩
                have hb5' : decide (k = 5) = b5 := by rw [← hb5, Bool.eq_iff_iff]; simp; omega
                rw [hb1] at hc1
                by_cases c6 : b1 = b5
                · have HFin : Aside0 (exnOk l0 k) := ⟨by unfold exnOk nm; rw [← HX.out]; exact ⟨c1, by omega, fun j hj e => HN.out j hj e, fun _ => ⟨c5.trans HFE.out, by rw [hb1, hb5', c6]⟩⟩⟩
                  clear c5 hb5' hb1
                  subst c6
                  cases b1
                  all_goals
                    go_wp2
                    go_quiet (fail)
                    go_wp2_with (at_mapUpdate; refine wpList_mapUpdate_own _ rfl _ _ _ 73 rfl 9 4 law9 Try.underlying73 _ (w.heap.size + 1) k D rfl (HO1.out _ _) (by unfold maxLen; omega) _ _ _ rfl rfl (keyOf_string_mk Try.underlying9 hsz) _ [] (plainElem_bool Try.underlying4 true) ?_)
                    intro w1 hown1 hgrow1
                    have R1 := exns_step HX.out hown hbel hlt HS.out HF.out HB.out HFin.out hown1 hgrow1
                    clear hown1 hgrow1 hown hc0 hc1 hlook hcf
                    go_wp2
                    go_roundw
                    case rel => exact ⟨k + 1, by omega, by go_num, R1⟩
                    case measure => simp [intOf]; omega
                · have c6' : Aside0 (¬ x.f1 = decide (k = 5)) := ⟨by rw [hb1, hb5']; exact c6⟩
                  clear c5 hb5' hb1
                  have c7 : b1 = !b5 := by cases b1 <;> cases b5 <;> simp_all
                  clear c6
                  subst c7
                  cases b5
                  all_goals
                    go_wp2
                    go_quiet (fail)
                    go_wp2
                    go_ret
                    refine ⟨.inr ⟨rfl, k, hlt, fun h => ?_⟩, ?_⟩
                    · have h1 := (h.2.2.2 c4).2
                      rw [← HX.out] at h1
                      exact c6'.out h1
                    · repeat (first | exact hbel | apply below_alloc | apply pw_below_drewN | apply below_drew)
              · have c5a : (x.f0.toList == f.toList) = false := bytes_ne c5
                have c5' := Aside0.mk c5
                clear c5
                go_wp2
                go_quiet (fail)
                go_wp2
                go_ret
                refine ⟨.inr ⟨rfl, k, hlt, fun h => ?_⟩, ?_⟩
                · have h1 := (h.2.2.2 c4).1
                  unfold nm at h1
                  rw [← HX.out] at h1
                  exact c5'.out (h1.trans HFE.out.symm)
                · repeat (first | exact hbel | apply below_alloc | apply pw_below_drewN | apply below_drew)
            · have c4b : decide ((k : Int) < 6) = false := decide_eq_false (by omega)
              have HFin : Aside0 (exnOk l0 k) := ⟨by unfold exnOk nm; rw [← HX.out]; exact ⟨c1, by omega, fun j hj e => HN.out j hj e, fun h => absurd h c4⟩⟩
              go_wp2
              go_quiet (fail)
              go_wp2_with (at_mapUpdate; refine wpList_mapUpdate_own _ rfl _ _ _ 73 rfl 9 4 law9 Try.underlying73 _ (w.heap.size + 1) k D rfl (HO1.out _ _) (by unfold maxLen; omega) _ _ _ rfl rfl (keyOf_string_mk Try.underlying9 hsz) _ [] (plainElem_bool Try.underlying4 true) ?_)
              intro w1 hown1 hgrow1
              have R1 := exns_step HX.out hown hbel hlt HS.out HF.out HB.out HFin.out hown1 hgrow1
              clear hown1 hgrow1 hown hc0 hc1 hlook
              go_wp2
              go_roundw
              case rel => exact ⟨k + 1, by omega, by go_num, R1⟩
              case measure => simp [intOf]; omega
    · go_wp2
      go_ret
      exact ⟨.inl ⟨rfl, fun j hj => HB.out j (by omega)⟩, hbel⟩
end Go.Proofs.Ytmjafkhkoifopaa.C16
end
section
/- code.ins, more kinds of operations. -/
namespace Go.Proofs.Ytmjafkhkoifopaa.C16
open Go.RowKit Go.Proofs.YtmjafkhkoifopaaW.PrintWords Go.Proofs.YtmjafkhkoifopaaW.PrintLast Go.Proofs.YtmjafkhkoifopaaW.PrintMore Go.Proofs.Ytmjafkhkoifopaa.PCodeDecodes
set_option linter.unusedVariables false
set_option linter.unusedSimpArgs false

set_option maxRecDepth 100000 in
set_option maxHeartbeats 1000000 in
theorem ins_f0 (A0 : Option Addr) (c0 : Nat) (A1 : Option Addr) (c1 : Nat) (A2 : Option Addr) (c2 : Nat) (es : List S45) (ts : List ByteArray) (cs : List S43) (at_ : Nat) (w : World) (hI : ImgAt w A0 c0 A1 c1 A2 c2 es ts cs) (hat : at_ < cs.length) (hz : Sized cs) (hn : numberOk ts.length cs[at_].f0 cs[at_].f1 cs[at_].f2 = true) (hf : fieldsOf cs[at_].f0 = 0) :
    Calls Try.prog 22 #[imgV A0 c0 A1 c1 A2 c2 es ts cs, .int .i64 at_] w fun e w' => Says (insOk ts cs at_ cs[at_]) e ∧ Below w.heap.size w w' := by
  have hnl := hI.r1.2.1
  obtain ⟨z3, z4, z5⟩ := hz cs[at_] (List.getElem_mem hat)
  have HI := Aside0.mk hI
  have hprev := Aside0.mk (fun h : at_ ≠ 0 => at_43 hI.r2 (at_ - 1) (by omega))
  obtain ⟨ad, A3, c3, A4, c4, A5, c5, rfl, q0, q1, q2, q3, q4, q5, r3, k3, r4, k4, r5, k5⟩ := at_43 hI.r2 at_ hat
  have hm := hI.r2.2.1
  have Hf := Aside0.mk hf
  have Hn := Aside0.mk hn
  have K3 := Aside0.mk k3
  have K4 := Aside0.mk k4
  have K5 := Aside0.mk k5
  clear hI hf hn hz k3 k4 k5
  generalize hcc : cs[at_] = c at *
  clear hcc
  replace q0 := cell_alloc q0
  replace q1 := cell_alloc q1
  replace q2 := cell_alloc q2
  replace q3 := cell_alloc q3
  replace q4 := cell_alloc q4
  replace q5 := cell_alloc q5
  have hmf : ∀ (fn : Fn) (first cap : Array Value) (w : World), (Instr.makeFunc fn first cap).run Try.prog w = .ok (.func fn first cap) w := fun _ _ _ _ => rfl
  have h16 : (c.f0 == 16) = false := by
    rw [beq_eq_false_iff_ne]
    intro e
    have h_ := Hf.out
    rw [e] at h_
    exact absurd h_ (by decide)
  have h26 : (c.f0 == 26) = false := by
    rw [beq_eq_false_iff_ne]
    intro e
    have h_ := Hf.out
    rw [e] at h_
    exact absurd h_ (by decide)
  have h13 : (c.f0 == 13) = false := by
    rw [beq_eq_false_iff_ne]
    intro e
    have h_ := Hf.out
    rw [e] at h_
    exact absurd h_ (by decide)
  by_cases hB : c.f2 ≠ 0
  · have hB1 : (c.f2 != 0) = true := by simpa using hB
    have HhB := Aside0.mk hB
    clear hB
    go_enter Try.func22, Try.ntmps22
    go_wp2_with (first
        | (go_at_call 28; refine (fields_is _ _ Hf.out _).mono ?_; rintro e w' ⟨rfl, ⟨n1, rfl⟩⟩)
        | (go_at_call 41; refine (number_is _ _ _ _ true Hn.out (HI.out.below ?b) rfl (by omega) (Kd.C_below K3.out ?b) r3 (Kd.C_below K4.out ?b) r4 (Kd.C_below K5.out ?b) r5).mono ?_; (case b => exact pw_below_drewN (below_alloc (below_alloc (Below.refl _ _) _) _) _); rintro e w2 ⟨rfl, hb2⟩; obtain ⟨g0, g1, g2, g3⟩ := boxes hb2; clear hb2)
        | (go_at_call 43; refine (containsOutside_calls _ _ _ w.heap.size (some ad) cs.length c2 _ (Kd.C_below K5.out ?b9) r5 ?c9).mono ?_; (case b9 => repeat (first | exact g2 | apply below_alloc | apply pw_below_drewN)); (case c9 => exact (g0 2).trans rfl); rintro e w' ⟨rfl, rfl⟩))
    go_ret
    exact ⟨.inr ⟨rfl, fun h => HhB.out (h.2.2.1 (by rw [Hf.out]; decide))⟩, by repeat (first | exact g2 | apply below_alloc | apply pw_below_drewN)⟩
  replace hB : c.f2 = 0 := by simpa using hB
  have hB1 : (c.f2 != 0) = false := by simpa using hB
  have HhB := Aside0.mk hB
  clear hB
  by_cases hT : 0 < c.f3.length + c.f4.length
  · have hT1 : decide (0 < (c.f3.length : Int) + c.f4.length) = true := decide_eq_true (by omega)
    have HhT := Aside0.mk hT
    clear hT
    go_enter Try.func22, Try.ntmps22
    go_wp2_with (first
        | (go_at_call 28; refine (fields_is _ _ Hf.out _).mono ?_; rintro e w' ⟨rfl, ⟨n1, rfl⟩⟩)
        | (go_at_call 41; refine (number_is _ _ _ _ true Hn.out (HI.out.below ?b) rfl (by omega) (Kd.C_below K3.out ?b) r3 (Kd.C_below K4.out ?b) r4 (Kd.C_below K5.out ?b) r5).mono ?_; (case b => exact pw_below_drewN (below_alloc (below_alloc (Below.refl _ _) _) _) _); rintro e w2 ⟨rfl, hb2⟩; obtain ⟨g0, g1, g2, g3⟩ := boxes hb2; clear hb2)
        | (go_at_call 43; refine (containsOutside_calls _ _ _ w.heap.size (some ad) cs.length c2 _ (Kd.C_below K5.out ?b9) r5 ?c9).mono ?_; (case b9 => repeat (first | exact g2 | apply below_alloc | apply pw_below_drewN)); (case c9 => exact (g0 2).trans rfl); rintro e w' ⟨rfl, rfl⟩))
    go_ret
    exact ⟨.inr ⟨rfl, fun h => by have h_ := h.2.2.2.1 (by rw [Hf.out]; decide); have h1_ := HhT.out; rw [h_.1, h_.2] at h1_; simp at h1_⟩, by repeat (first | exact g2 | apply below_alloc | apply pw_below_drewN)⟩
  replace hT : c.f3 = [] ∧ c.f4 = [] := by exact ⟨List.eq_nil_of_length_eq_zero (by omega), List.eq_nil_of_length_eq_zero (by omega)⟩
  have hT1 : decide (0 < (c.f3.length : Int) + c.f4.length) = false := decide_eq_false (by rw [hT.1, hT.2]; simp)
  have HhT := Aside0.mk hT
  clear hT
  by_cases hL : c.f5 ≠ []
  · have hL1 : ((c.f5.length : Int) != 0) = true := by rw [bne_iff_ne]; intro e; exact hL (List.eq_nil_of_length_eq_zero (by omega))
    have HhL := Aside0.mk hL
    clear hL
    go_enter Try.func22, Try.ntmps22
    go_wp2_with (first
        | (go_at_call 28; refine (fields_is _ _ Hf.out _).mono ?_; rintro e w' ⟨rfl, ⟨n1, rfl⟩⟩)
        | (go_at_call 41; refine (number_is _ _ _ _ true Hn.out (HI.out.below ?b) rfl (by omega) (Kd.C_below K3.out ?b) r3 (Kd.C_below K4.out ?b) r4 (Kd.C_below K5.out ?b) r5).mono ?_; (case b => exact pw_below_drewN (below_alloc (below_alloc (Below.refl _ _) _) _) _); rintro e w2 ⟨rfl, hb2⟩; obtain ⟨g0, g1, g2, g3⟩ := boxes hb2; clear hb2)
        | (go_at_call 43; refine (containsOutside_calls _ _ _ w.heap.size (some ad) cs.length c2 _ (Kd.C_below K5.out ?b9) r5 ?c9).mono ?_; (case b9 => repeat (first | exact g2 | apply below_alloc | apply pw_below_drewN)); (case c9 => exact (g0 2).trans rfl); rintro e w' ⟨rfl, rfl⟩))
    go_ret
    exact ⟨.inr ⟨rfl, fun h => HhL.out (h.2.2.2.2.2.1 (by rw [Hf.out]; decide))⟩, by repeat (first | exact g2 | apply below_alloc | apply pw_below_drewN)⟩
  replace hL : c.f5 = [] := by simpa using hL
  have hL1 : ((c.f5.length : Int) != 0) = false := by simp [hL]
  have HhL := Aside0.mk hL
  clear hL
  obtain ⟨b, hb⟩ : ∃ b, c.f5.any (outside cs.length) = b := ⟨_, rfl⟩
  have Hb := Aside0.mk hb
  clear hb
  go_enter Try.func22, Try.ntmps22
  go_wp2_with (first
    | (go_at_call 28; refine (fields_is _ _ Hf.out _).mono ?_; rintro e w' ⟨rfl, ⟨n1, rfl⟩⟩)
    | (go_at_call 41; refine (number_is _ _ _ _ true Hn.out (HI.out.below ?b) rfl (by omega) (Kd.C_below K3.out ?b) r3 (Kd.C_below K4.out ?b) r4 (Kd.C_below K5.out ?b) r5).mono ?_; (case b => exact pw_below_drewN (below_alloc (below_alloc (Below.refl _ _) _) _) _); rintro e w2 ⟨rfl, hb2⟩; obtain ⟨g0, g1, g2, g3⟩ := boxes hb2; clear hb2)
    | (go_at_call 43; refine (containsOutside_calls _ _ _ w.heap.size (some ad) cs.length c2 _ (Kd.C_below K5.out ?b9) r5 ?c9).mono ?_; (case b9 => repeat (first | exact g2 | apply below_alloc | apply pw_below_drewN)); (case c9 => exact (g0 2).trans rfl); rintro e w' ⟨rfl, rfl⟩))
  rw [Hb.out]
  go_ret
  refine ⟨?_, by repeat (first | exact g2 | apply below_alloc | apply pw_below_drewN)⟩
  cases b with
  | true => exact .inr ⟨rfl, fun h => by have h_ := h.2.2.2.2.2.2.2.2.2; rw [Hb.out] at h_; cases h_⟩
  | false =>
    refine .inl ⟨rfl, ?_⟩
    exact ⟨by rw [Hf.out]; decide, Hn.out, fun _ => HhB.out, fun _ => HhT.out, fun h => by rw [Hf.out] at h; exact absurd h (by decide), fun _ => HhL.out, fun h => by rw [h] at h16; exact absurd h16 (by decide), fun h => by rw [h] at h26; exact absurd h26 (by decide), fun h => by rw [h] at h13; exact absurd h13 (by decide), Hb.out⟩
set_option maxRecDepth 100000 in
set_option maxHeartbeats 1000000 in
theorem ins_f3 (A0 : Option Addr) (c0 : Nat) (A1 : Option Addr) (c1 : Nat) (A2 : Option Addr) (c2 : Nat) (es : List S45) (ts : List ByteArray) (cs : List S43) (at_ : Nat) (w : World) (hI : ImgAt w A0 c0 A1 c1 A2 c2 es ts cs) (hat : at_ < cs.length) (hz : Sized cs) (hn : numberOk ts.length cs[at_].f0 cs[at_].f1 cs[at_].f2 = true) (hf : fieldsOf cs[at_].f0 = 3) :
    Calls Try.prog 22 #[imgV A0 c0 A1 c1 A2 c2 es ts cs, .int .i64 at_] w fun e w' => Says (insOk ts cs at_ cs[at_]) e ∧ Below w.heap.size w w' := by
  have hnl := hI.r1.2.1
  obtain ⟨z3, z4, z5⟩ := hz cs[at_] (List.getElem_mem hat)
  have HI := Aside0.mk hI
  have hprev := Aside0.mk (fun h : at_ ≠ 0 => at_43 hI.r2 (at_ - 1) (by omega))
  obtain ⟨ad, A3, c3, A4, c4, A5, c5, rfl, q0, q1, q2, q3, q4, q5, r3, k3, r4, k4, r5, k5⟩ := at_43 hI.r2 at_ hat
  have hm := hI.r2.2.1
  have Hf := Aside0.mk hf
  have Hn := Aside0.mk hn
  have K3 := Aside0.mk k3
  have K4 := Aside0.mk k4
  have K5 := Aside0.mk k5
  clear hI hf hn hz k3 k4 k5
  generalize hcc : cs[at_] = c at *
  clear hcc
  replace q0 := cell_alloc q0
  replace q1 := cell_alloc q1
  replace q2 := cell_alloc q2
  replace q3 := cell_alloc q3
  replace q4 := cell_alloc q4
  replace q5 := cell_alloc q5
  have hmf : ∀ (fn : Fn) (first cap : Array Value) (w : World), (Instr.makeFunc fn first cap).run Try.prog w = .ok (.func fn first cap) w := fun _ _ _ _ => rfl
  have h16 : (c.f0 == 16) = false := by
    rw [beq_eq_false_iff_ne]
    intro e
    have h_ := Hf.out
    rw [e] at h_
    exact absurd h_ (by decide)
  have h26 : (c.f0 == 26) = false := by
    rw [beq_eq_false_iff_ne]
    intro e
    have h_ := Hf.out
    rw [e] at h_
    exact absurd h_ (by decide)
  have h13 : (c.f0 == 13) = false := by
    rw [beq_eq_false_iff_ne]
    intro e
    have h_ := Hf.out
    rw [e] at h_
    exact absurd h_ (by decide)
  by_cases hT : 0 < c.f3.length + c.f4.length
  · have hT1 : decide (0 < (c.f3.length : Int) + c.f4.length) = true := decide_eq_true (by omega)
    have HhT := Aside0.mk hT
    clear hT
    go_enter Try.func22, Try.ntmps22
    go_wp2_with (first
        | (go_at_call 28; refine (fields_is _ _ Hf.out _).mono ?_; rintro e w' ⟨rfl, ⟨n1, rfl⟩⟩)
        | (go_at_call 41; refine (number_is _ _ _ _ true Hn.out (HI.out.below ?b) rfl (by omega) (Kd.C_below K3.out ?b) r3 (Kd.C_below K4.out ?b) r4 (Kd.C_below K5.out ?b) r5).mono ?_; (case b => exact pw_below_drewN (below_alloc (below_alloc (Below.refl _ _) _) _) _); rintro e w2 ⟨rfl, hb2⟩; obtain ⟨g0, g1, g2, g3⟩ := boxes hb2; clear hb2)
        | (go_at_call 43; refine (containsOutside_calls _ _ _ w.heap.size (some ad) cs.length c2 _ (Kd.C_below K5.out ?b9) r5 ?c9).mono ?_; (case b9 => repeat (first | exact g2 | apply below_alloc | apply pw_below_drewN)); (case c9 => exact (g0 2).trans rfl); rintro e w' ⟨rfl, rfl⟩))
    go_ret
    exact ⟨.inr ⟨rfl, fun h => by have h_ := h.2.2.2.1 (by rw [Hf.out]; decide); have h1_ := HhT.out; rw [h_.1, h_.2] at h1_; simp at h1_⟩, by repeat (first | exact g2 | apply below_alloc | apply pw_below_drewN)⟩
  replace hT : c.f3 = [] ∧ c.f4 = [] := by exact ⟨List.eq_nil_of_length_eq_zero (by omega), List.eq_nil_of_length_eq_zero (by omega)⟩
  have hT1 : decide (0 < (c.f3.length : Int) + c.f4.length) = false := decide_eq_false (by rw [hT.1, hT.2]; simp)
  have HhT := Aside0.mk hT
  clear hT
  by_cases hL : c.f5 ≠ []
  · have hL1 : ((c.f5.length : Int) != 0) = true := by rw [bne_iff_ne]; intro e; exact hL (List.eq_nil_of_length_eq_zero (by omega))
    have HhL := Aside0.mk hL
    clear hL
    go_enter Try.func22, Try.ntmps22
    go_wp2_with (first
        | (go_at_call 28; refine (fields_is _ _ Hf.out _).mono ?_; rintro e w' ⟨rfl, ⟨n1, rfl⟩⟩)
        | (go_at_call 41; refine (number_is _ _ _ _ true Hn.out (HI.out.below ?b) rfl (by omega) (Kd.C_below K3.out ?b) r3 (Kd.C_below K4.out ?b) r4 (Kd.C_below K5.out ?b) r5).mono ?_; (case b => exact pw_below_drewN (below_alloc (below_alloc (Below.refl _ _) _) _) _); rintro e w2 ⟨rfl, hb2⟩; obtain ⟨g0, g1, g2, g3⟩ := boxes hb2; clear hb2)
        | (go_at_call 43; refine (containsOutside_calls _ _ _ w.heap.size (some ad) cs.length c2 _ (Kd.C_below K5.out ?b9) r5 ?c9).mono ?_; (case b9 => repeat (first | exact g2 | apply below_alloc | apply pw_below_drewN)); (case c9 => exact (g0 2).trans rfl); rintro e w' ⟨rfl, rfl⟩))
    go_ret
    exact ⟨.inr ⟨rfl, fun h => HhL.out (h.2.2.2.2.2.1 (by rw [Hf.out]; decide))⟩, by repeat (first | exact g2 | apply below_alloc | apply pw_below_drewN)⟩
  replace hL : c.f5 = [] := by simpa using hL
  have hL1 : ((c.f5.length : Int) != 0) = false := by simp [hL]
  have HhL := Aside0.mk hL
  clear hL
  obtain ⟨b, hb⟩ : ∃ b, c.f5.any (outside cs.length) = b := ⟨_, rfl⟩
  have Hb := Aside0.mk hb
  clear hb
  go_enter Try.func22, Try.ntmps22
  go_wp2_with (first
    | (go_at_call 28; refine (fields_is _ _ Hf.out _).mono ?_; rintro e w' ⟨rfl, ⟨n1, rfl⟩⟩)
    | (go_at_call 41; refine (number_is _ _ _ _ true Hn.out (HI.out.below ?b) rfl (by omega) (Kd.C_below K3.out ?b) r3 (Kd.C_below K4.out ?b) r4 (Kd.C_below K5.out ?b) r5).mono ?_; (case b => exact pw_below_drewN (below_alloc (below_alloc (Below.refl _ _) _) _) _); rintro e w2 ⟨rfl, hb2⟩; obtain ⟨g0, g1, g2, g3⟩ := boxes hb2; clear hb2)
    | (go_at_call 43; refine (containsOutside_calls _ _ _ w.heap.size (some ad) cs.length c2 _ (Kd.C_below K5.out ?b9) r5 ?c9).mono ?_; (case b9 => repeat (first | exact g2 | apply below_alloc | apply pw_below_drewN)); (case c9 => exact (g0 2).trans rfl); rintro e w' ⟨rfl, rfl⟩))
  rw [Hb.out]
  go_ret
  refine ⟨?_, by repeat (first | exact g2 | apply below_alloc | apply pw_below_drewN)⟩
  cases b with
  | true => exact .inr ⟨rfl, fun h => by have h_ := h.2.2.2.2.2.2.2.2.2; rw [Hb.out] at h_; cases h_⟩
  | false =>
    refine .inl ⟨rfl, ?_⟩
    exact ⟨by rw [Hf.out]; decide, Hn.out, fun h => absurd Hf.out h, fun _ => HhT.out, fun h => by rw [Hf.out] at h; exact absurd h (by decide), fun _ => HhL.out, fun h => by rw [h] at h16; exact absurd h16 (by decide), fun h => by rw [h] at h26; exact absurd h26 (by decide), fun h => by rw [h] at h13; exact absurd h13 (by decide), Hb.out⟩
set_option maxRecDepth 100000 in
set_option maxHeartbeats 1000000 in
theorem ins_f17 (A0 : Option Addr) (c0 : Nat) (A1 : Option Addr) (c1 : Nat) (A2 : Option Addr) (c2 : Nat) (es : List S45) (ts : List ByteArray) (cs : List S43) (at_ : Nat) (w : World) (hI : ImgAt w A0 c0 A1 c1 A2 c2 es ts cs) (hat : at_ < cs.length) (hz : Sized cs) (hn : numberOk ts.length cs[at_].f0 cs[at_].f1 cs[at_].f2 = true) (hf : fieldsOf cs[at_].f0 = 17) :
    Calls Try.prog 22 #[imgV A0 c0 A1 c1 A2 c2 es ts cs, .int .i64 at_] w fun e w' => Says (insOk ts cs at_ cs[at_]) e ∧ Below w.heap.size w w' := by
  have hnl := hI.r1.2.1
  obtain ⟨z3, z4, z5⟩ := hz cs[at_] (List.getElem_mem hat)
  have HI := Aside0.mk hI
  have hprev := Aside0.mk (fun h : at_ ≠ 0 => at_43 hI.r2 (at_ - 1) (by omega))
  obtain ⟨ad, A3, c3, A4, c4, A5, c5, rfl, q0, q1, q2, q3, q4, q5, r3, k3, r4, k4, r5, k5⟩ := at_43 hI.r2 at_ hat
  have hm := hI.r2.2.1
  have Hf := Aside0.mk hf
  have Hn := Aside0.mk hn
  have K3 := Aside0.mk k3
  have K4 := Aside0.mk k4
  have K5 := Aside0.mk k5
  clear hI hf hn hz k3 k4 k5
  generalize hcc : cs[at_] = c at *
  clear hcc
  replace q0 := cell_alloc q0
  replace q1 := cell_alloc q1
  replace q2 := cell_alloc q2
  replace q3 := cell_alloc q3
  replace q4 := cell_alloc q4
  replace q5 := cell_alloc q5
  have hmf : ∀ (fn : Fn) (first cap : Array Value) (w : World), (Instr.makeFunc fn first cap).run Try.prog w = .ok (.func fn first cap) w := fun _ _ _ _ => rfl
  have h16 : (c.f0 == 16) = true := by rw [beq_iff_eq]; exact op_of_17 Hf.out
  have h26 : (c.f0 == 26) = false := by
    rw [beq_eq_false_iff_ne]
    intro e
    have h_ := Hf.out
    rw [e] at h_
    exact absurd h_ (by decide)
  have h13 : (c.f0 == 13) = false := by
    rw [beq_eq_false_iff_ne]
    intro e
    have h_ := Hf.out
    rw [e] at h_
    exact absurd h_ (by decide)
  by_cases hB : c.f2 ≠ 0
  · have hB1 : (c.f2 != 0) = true := by simpa using hB
    have HhB := Aside0.mk hB
    clear hB
    go_enter Try.func22, Try.ntmps22
    go_wp2_with (first
        | (go_at_call 28; refine (fields_is _ _ Hf.out _).mono ?_; rintro e w' ⟨rfl, ⟨n1, rfl⟩⟩)
        | (go_at_call 41; refine (number_is _ _ _ _ true Hn.out (HI.out.below ?b) rfl (by omega) (Kd.C_below K3.out ?b) r3 (Kd.C_below K4.out ?b) r4 (Kd.C_below K5.out ?b) r5).mono ?_; (case b => exact pw_below_drewN (below_alloc (below_alloc (Below.refl _ _) _) _) _); rintro e w2 ⟨rfl, hb2⟩; obtain ⟨g0, g1, g2, g3⟩ := boxes hb2; clear hb2)
        | (go_at_call 43; refine (containsOutside_calls _ _ _ w.heap.size (some ad) cs.length c2 _ (Kd.C_below K5.out ?b9) r5 ?c9).mono ?_; (case b9 => repeat (first | exact g2 | apply below_alloc | apply pw_below_drewN)); (case c9 => exact (g0 2).trans rfl); rintro e w' ⟨rfl, rfl⟩))
    go_ret
    exact ⟨.inr ⟨rfl, fun h => HhB.out (h.2.2.1 (by rw [Hf.out]; decide))⟩, by repeat (first | exact g2 | apply below_alloc | apply pw_below_drewN)⟩
  replace hB : c.f2 = 0 := by simpa using hB
  have hB1 : (c.f2 != 0) = false := by simpa using hB
  have HhB := Aside0.mk hB
  clear hB
  by_cases hT : 0 < c.f3.length + c.f4.length
  · have hT1 : decide (0 < (c.f3.length : Int) + c.f4.length) = true := decide_eq_true (by omega)
    have HhT := Aside0.mk hT
    clear hT
    go_enter Try.func22, Try.ntmps22
    go_wp2_with (first
        | (go_at_call 28; refine (fields_is _ _ Hf.out _).mono ?_; rintro e w' ⟨rfl, ⟨n1, rfl⟩⟩)
        | (go_at_call 41; refine (number_is _ _ _ _ true Hn.out (HI.out.below ?b) rfl (by omega) (Kd.C_below K3.out ?b) r3 (Kd.C_below K4.out ?b) r4 (Kd.C_below K5.out ?b) r5).mono ?_; (case b => exact pw_below_drewN (below_alloc (below_alloc (Below.refl _ _) _) _) _); rintro e w2 ⟨rfl, hb2⟩; obtain ⟨g0, g1, g2, g3⟩ := boxes hb2; clear hb2)
        | (go_at_call 43; refine (containsOutside_calls _ _ _ w.heap.size (some ad) cs.length c2 _ (Kd.C_below K5.out ?b9) r5 ?c9).mono ?_; (case b9 => repeat (first | exact g2 | apply below_alloc | apply pw_below_drewN)); (case c9 => exact (g0 2).trans rfl); rintro e w' ⟨rfl, rfl⟩))
    go_ret
    exact ⟨.inr ⟨rfl, fun h => by have h_ := h.2.2.2.1 (by rw [Hf.out]; decide); have h1_ := HhT.out; rw [h_.1, h_.2] at h1_; simp at h1_⟩, by repeat (first | exact g2 | apply below_alloc | apply pw_below_drewN)⟩
  replace hT : c.f3 = [] ∧ c.f4 = [] := by exact ⟨List.eq_nil_of_length_eq_zero (by omega), List.eq_nil_of_length_eq_zero (by omega)⟩
  have hT1 : decide (0 < (c.f3.length : Int) + c.f4.length) = false := decide_eq_false (by rw [hT.1, hT.2]; simp)
  have HhT := Aside0.mk hT
  clear hT
  by_cases hE : c.f5 = []
  · have hL1 : ((c.f5.length : Int) == 0) = true := by simp [hE]
    have HhE := Aside0.mk hE
    clear hE
    go_enter Try.func22, Try.ntmps22
    go_wp2_with (first
        | (go_at_call 28; refine (fields_is _ _ Hf.out _).mono ?_; rintro e w' ⟨rfl, ⟨n1, rfl⟩⟩)
        | (go_at_call 41; refine (number_is _ _ _ _ true Hn.out (HI.out.below ?b) rfl (by omega) (Kd.C_below K3.out ?b) r3 (Kd.C_below K4.out ?b) r4 (Kd.C_below K5.out ?b) r5).mono ?_; (case b => exact pw_below_drewN (below_alloc (below_alloc (Below.refl _ _) _) _) _); rintro e w2 ⟨rfl, hb2⟩; obtain ⟨g0, g1, g2, g3⟩ := boxes hb2; clear hb2)
        | (go_at_call 43; refine (containsOutside_calls _ _ _ w.heap.size (some ad) cs.length c2 _ (Kd.C_below K5.out ?b9) r5 ?c9).mono ?_; (case b9 => repeat (first | exact g2 | apply below_alloc | apply pw_below_drewN)); (case c9 => exact (g0 2).trans rfl); rintro e w' ⟨rfl, rfl⟩))
    go_ret
    exact ⟨.inr ⟨rfl, fun h => (h.2.2.2.2.2.2.1 (by simpa using h16)).1 HhE.out⟩, by repeat (first | exact g2 | apply below_alloc | apply pw_below_drewN)⟩
  replace hE : c.f5 ≠ [] := by exact hE
  have hL1 : ((c.f5.length : Int) == 0) = false := by rw [beq_eq_false_iff_ne]; intro e; exact hE (List.eq_nil_of_length_eq_zero (by omega))
  have HhE := Aside0.mk hE
  clear hE
  by_cases hL : 30 < c.f5.length
  · have hL2 : decide (30 < (c.f5.length : Int)) = true := decide_eq_true (by omega)
    have HhL := Aside0.mk hL
    clear hL
    go_enter Try.func22, Try.ntmps22
    go_wp2_with (first
        | (go_at_call 28; refine (fields_is _ _ Hf.out _).mono ?_; rintro e w' ⟨rfl, ⟨n1, rfl⟩⟩)
        | (go_at_call 41; refine (number_is _ _ _ _ true Hn.out (HI.out.below ?b) rfl (by omega) (Kd.C_below K3.out ?b) r3 (Kd.C_below K4.out ?b) r4 (Kd.C_below K5.out ?b) r5).mono ?_; (case b => exact pw_below_drewN (below_alloc (below_alloc (Below.refl _ _) _) _) _); rintro e w2 ⟨rfl, hb2⟩; obtain ⟨g0, g1, g2, g3⟩ := boxes hb2; clear hb2)
        | (go_at_call 43; refine (containsOutside_calls _ _ _ w.heap.size (some ad) cs.length c2 _ (Kd.C_below K5.out ?b9) r5 ?c9).mono ?_; (case b9 => repeat (first | exact g2 | apply below_alloc | apply pw_below_drewN)); (case c9 => exact (g0 2).trans rfl); rintro e w' ⟨rfl, rfl⟩))
    go_ret
    exact ⟨.inr ⟨rfl, fun h => by have h_ := (h.2.2.2.2.2.2.1 (by simpa using h16)).2; have h1_ := HhL.out; omega⟩, by repeat (first | exact g2 | apply below_alloc | apply pw_below_drewN)⟩
  replace hL : c.f5.length ≤ 30 := by omega
  have hL2 : decide (30 < (c.f5.length : Int)) = false := decide_eq_false (by omega)
  have HhL := Aside0.mk hL
  clear hL
  obtain ⟨b, hb⟩ : ∃ b, c.f5.any (outside cs.length) = b := ⟨_, rfl⟩
  have Hb := Aside0.mk hb
  clear hb
  go_enter Try.func22, Try.ntmps22
  go_wp2_with (first
    | (go_at_call 28; refine (fields_is _ _ Hf.out _).mono ?_; rintro e w' ⟨rfl, ⟨n1, rfl⟩⟩)
    | (go_at_call 41; refine (number_is _ _ _ _ true Hn.out (HI.out.below ?b) rfl (by omega) (Kd.C_below K3.out ?b) r3 (Kd.C_below K4.out ?b) r4 (Kd.C_below K5.out ?b) r5).mono ?_; (case b => exact pw_below_drewN (below_alloc (below_alloc (Below.refl _ _) _) _) _); rintro e w2 ⟨rfl, hb2⟩; obtain ⟨g0, g1, g2, g3⟩ := boxes hb2; clear hb2)
    | (go_at_call 43; refine (containsOutside_calls _ _ _ w.heap.size (some ad) cs.length c2 _ (Kd.C_below K5.out ?b9) r5 ?c9).mono ?_; (case b9 => repeat (first | exact g2 | apply below_alloc | apply pw_below_drewN)); (case c9 => exact (g0 2).trans rfl); rintro e w' ⟨rfl, rfl⟩))
  rw [Hb.out]
  go_ret
  refine ⟨?_, by repeat (first | exact g2 | apply below_alloc | apply pw_below_drewN)⟩
  cases b with
  | true => exact .inr ⟨rfl, fun h => by have h_ := h.2.2.2.2.2.2.2.2.2; rw [Hb.out] at h_; cases h_⟩
  | false =>
    refine .inl ⟨rfl, ?_⟩
    exact ⟨by rw [Hf.out]; decide, Hn.out, fun _ => HhB.out, fun _ => HhT.out, fun h => by rw [Hf.out] at h; exact absurd h (by decide), fun h => by rw [Hf.out] at h; exact absurd h (by decide), fun _ => ⟨HhE.out, HhL.out⟩, fun h => by rw [h] at h26; exact absurd h26 (by decide), fun h => by rw [h] at h13; exact absurd h13 (by decide), Hb.out⟩
end Go.Proofs.Ytmjafkhkoifopaa.C16
end
section
/- code.ins, the last kinds of operations, and all of them. -/
namespace Go.Proofs.Ytmjafkhkoifopaa.C16
open Go.RowKit Go.Proofs.YtmjafkhkoifopaaW.PrintWords Go.Proofs.YtmjafkhkoifopaaW.PrintLast Go.Proofs.YtmjafkhkoifopaaW.PrintMore Go.Proofs.Ytmjafkhkoifopaa.PCodeDecodes
set_option linter.unusedVariables false
set_option linter.unusedSimpArgs false

set_option maxRecDepth 100000 in
set_option maxHeartbeats 1000000 in
theorem ins_f1 (A0 : Option Addr) (c0 : Nat) (A1 : Option Addr) (c1 : Nat) (A2 : Option Addr) (c2 : Nat) (es : List S45) (ts : List ByteArray) (cs : List S43) (at_ : Nat) (w : World) (hI : ImgAt w A0 c0 A1 c1 A2 c2 es ts cs) (hat : at_ < cs.length) (hz : Sized cs) (hn : numberOk ts.length cs[at_].f0 cs[at_].f1 cs[at_].f2 = true) (hf : fieldsOf cs[at_].f0 = 1) :
    Calls Try.prog 22 #[imgV A0 c0 A1 c1 A2 c2 es ts cs, .int .i64 at_] w fun e w' => Says (insOk ts cs at_ cs[at_]) e ∧ Below w.heap.size w w' := by
  have hnl := hI.r1.2.1
  obtain ⟨z3, z4, z5⟩ := hz cs[at_] (List.getElem_mem hat)
  have HI := Aside0.mk hI
  have hprev := Aside0.mk (fun h : at_ ≠ 0 => at_43 hI.r2 (at_ - 1) (by omega))
  obtain ⟨ad, A3, c3, A4, c4, A5, c5, rfl, q0, q1, q2, q3, q4, q5, r3, k3, r4, k4, r5, k5⟩ := at_43 hI.r2 at_ hat
  have hm := hI.r2.2.1
  have Hf := Aside0.mk hf
  have Hn := Aside0.mk hn
  have K3 := Aside0.mk k3
  have K4 := Aside0.mk k4
  have K5 := Aside0.mk k5
  clear hI hf hn hz k3 k4 k5
  generalize hcc : cs[at_] = c at *
  clear hcc
  replace q0 := cell_alloc q0
  replace q1 := cell_alloc q1
  replace q2 := cell_alloc q2
  replace q3 := cell_alloc q3
  replace q4 := cell_alloc q4
  replace q5 := cell_alloc q5
  have hmf : ∀ (fn : Fn) (first cap : Array Value) (w : World), (Instr.makeFunc fn first cap).run Try.prog w = .ok (.func fn first cap) w := fun _ _ _ _ => rfl
  have h16 : (c.f0 == 16) = false := by
    rw [beq_eq_false_iff_ne]
    intro e
    have h_ := Hf.out
    rw [e] at h_
    exact absurd h_ (by decide)
  have h26 : (c.f0 == 26) = false := by
    rw [beq_eq_false_iff_ne]
    intro e
    have h_ := Hf.out
    rw [e] at h_
    exact absurd h_ (by decide)
  by_cases hB : c.f2 ≠ 0
  · have hB1 : (c.f2 != 0) = true := by simpa using hB
    have HhB := Aside0.mk hB
    clear hB
    go_enter Try.func22, Try.ntmps22
    go_wp2_with (first
        | (go_at_call 28; refine (fields_is _ _ Hf.out _).mono ?_; rintro e w' ⟨rfl, ⟨n1, rfl⟩⟩)
        | (go_at_call 41; refine (number_is _ _ _ _ true Hn.out (HI.out.below ?b) rfl (by omega) (Kd.C_below K3.out ?b) r3 (Kd.C_below K4.out ?b) r4 (Kd.C_below K5.out ?b) r5).mono ?_; (case b => exact pw_below_drewN (below_alloc (below_alloc (Below.refl _ _) _) _) _); rintro e w2 ⟨rfl, hb2⟩; obtain ⟨g0, g1, g2, g3⟩ := boxes hb2; clear hb2)
        | (go_at_call 43; refine (containsOutside_calls _ _ _ w.heap.size (some ad) cs.length c2 _ (Kd.C_below K5.out ?b9) r5 ?c9).mono ?_; (case b9 => repeat (first | exact g2 | apply below_alloc | apply pw_below_drewN)); (case c9 => exact (g0 2).trans rfl); rintro e w' ⟨rfl, rfl⟩))
    go_ret
    exact ⟨.inr ⟨rfl, fun h => HhB.out (h.2.2.1 (by rw [Hf.out]; decide))⟩, by repeat (first | exact g2 | apply below_alloc | apply pw_below_drewN)⟩
  replace hB : c.f2 = 0 := by simpa using hB
  have hB1 : (c.f2 != 0) = false := by simpa using hB
  have HhB := Aside0.mk hB
  clear hB
  by_cases hT : 0 < c.f3.length + c.f4.length
  · have hT1 : decide (0 < (c.f3.length : Int) + c.f4.length) = true := decide_eq_true (by omega)
    have HhT := Aside0.mk hT
    clear hT
    go_enter Try.func22, Try.ntmps22
    go_wp2_with (first
        | (go_at_call 28; refine (fields_is _ _ Hf.out _).mono ?_; rintro e w' ⟨rfl, ⟨n1, rfl⟩⟩)
        | (go_at_call 41; refine (number_is _ _ _ _ true Hn.out (HI.out.below ?b) rfl (by omega) (Kd.C_below K3.out ?b) r3 (Kd.C_below K4.out ?b) r4 (Kd.C_below K5.out ?b) r5).mono ?_; (case b => exact pw_below_drewN (below_alloc (below_alloc (Below.refl _ _) _) _) _); rintro e w2 ⟨rfl, hb2⟩; obtain ⟨g0, g1, g2, g3⟩ := boxes hb2; clear hb2)
        | (go_at_call 43; refine (containsOutside_calls _ _ _ w.heap.size (some ad) cs.length c2 _ (Kd.C_below K5.out ?b9) r5 ?c9).mono ?_; (case b9 => repeat (first | exact g2 | apply below_alloc | apply pw_below_drewN)); (case c9 => exact (g0 2).trans rfl); rintro e w' ⟨rfl, rfl⟩))
    go_ret
    exact ⟨.inr ⟨rfl, fun h => by have h_ := h.2.2.2.1 (by rw [Hf.out]; decide); have h1_ := HhT.out; rw [h_.1, h_.2] at h1_; simp at h1_⟩, by repeat (first | exact g2 | apply below_alloc | apply pw_below_drewN)⟩
  replace hT : c.f3 = [] ∧ c.f4 = [] := by exact ⟨List.eq_nil_of_length_eq_zero (by omega), List.eq_nil_of_length_eq_zero (by omega)⟩
  have hT1 : decide (0 < (c.f3.length : Int) + c.f4.length) = false := decide_eq_false (by rw [hT.1, hT.2]; simp)
  have HhT := Aside0.mk hT
  clear hT
  by_cases hL : c.f5 ≠ []
  · have hL1 : ((c.f5.length : Int) != 0) = true := by rw [bne_iff_ne]; intro e; exact hL (List.eq_nil_of_length_eq_zero (by omega))
    have HhL := Aside0.mk hL
    clear hL
    go_enter Try.func22, Try.ntmps22
    go_wp2_with (first
        | (go_at_call 28; refine (fields_is _ _ Hf.out _).mono ?_; rintro e w' ⟨rfl, ⟨n1, rfl⟩⟩)
        | (go_at_call 41; refine (number_is _ _ _ _ true Hn.out (HI.out.below ?b) rfl (by omega) (Kd.C_below K3.out ?b) r3 (Kd.C_below K4.out ?b) r4 (Kd.C_below K5.out ?b) r5).mono ?_; (case b => exact pw_below_drewN (below_alloc (below_alloc (Below.refl _ _) _) _) _); rintro e w2 ⟨rfl, hb2⟩; obtain ⟨g0, g1, g2, g3⟩ := boxes hb2; clear hb2)
        | (go_at_call 43; refine (containsOutside_calls _ _ _ w.heap.size (some ad) cs.length c2 _ (Kd.C_below K5.out ?b9) r5 ?c9).mono ?_; (case b9 => repeat (first | exact g2 | apply below_alloc | apply pw_below_drewN)); (case c9 => exact (g0 2).trans rfl); rintro e w' ⟨rfl, rfl⟩))
    go_ret
    exact ⟨.inr ⟨rfl, fun h => HhL.out (h.2.2.2.2.2.1 (by rw [Hf.out]; decide))⟩, by repeat (first | exact g2 | apply below_alloc | apply pw_below_drewN)⟩
  replace hL : c.f5 = [] := by simpa using hL
  have hL1 : ((c.f5.length : Int) != 0) = false := by simp [hL]
  have HhL := Aside0.mk hL
  clear hL
  by_cases h13 : c.f0 = 13
  · have h13a : (c.f0 == 13) = true := by rw [beq_iff_eq]; exact h13
    have H13 := Aside0.mk h13
    clear h13
    by_cases hz : at_ = 0
    · have hz0 : ((at_ : Int) == 0) = true := by rw [hz]; rfl
      have HZ := Aside0.mk hz
      clear hz hprev
      go_enter Try.func22, Try.ntmps22
      go_wp2_with (first
          | (go_at_call 28; refine (fields_is _ _ Hf.out _).mono ?_; rintro e w' ⟨rfl, ⟨n1, rfl⟩⟩)
          | (go_at_call 41; refine (number_is _ _ _ _ true Hn.out (HI.out.below ?b) rfl (by omega) (Kd.C_below K3.out ?b) r3 (Kd.C_below K4.out ?b) r4 (Kd.C_below K5.out ?b) r5).mono ?_; (case b => exact pw_below_drewN (below_alloc (below_alloc (Below.refl _ _) _) _) _); rintro e w2 ⟨rfl, hb2⟩; obtain ⟨g0, g1, g2, g3⟩ := boxes hb2; clear hb2)
          | (go_at_call 43; refine (containsOutside_calls _ _ _ w.heap.size (some ad) cs.length c2 _ (Kd.C_below K5.out ?b9) r5 ?c9).mono ?_; (case b9 => repeat (first | exact g2 | apply below_alloc | apply pw_below_drewN)); (case c9 => exact (g0 2).trans rfl); rintro e w' ⟨rfl, rfl⟩))
      go_ret
      exact ⟨.inr ⟨rfl, fun h => (h.2.2.2.2.2.2.2.2.1 H13.out).1 HZ.out⟩, by repeat (first | exact g2 | apply below_alloc | apply pw_below_drewN)⟩
    · obtain ⟨adp, B3, d3, B4, d4, B5, d5, ep, p0, _⟩ := hprev.out hz
      cases ep
      have hmlt : at_ - 1 < cs.length := by omega
      have hgd : (cs.getD (at_ - 1) z43) = cs[at_ - 1] := by simp [List.getD_eq_getElem?_getD, hmlt]
      have hz0 : ((at_ : Int) == 0) = false := by rw [beq_eq_false_iff_ne]; omega
      have hz1 : (1 : Int) ≤ at_ := by omega
      have hz2 : ((at_ : Int) - 1).toNat = at_ - 1 := by omega
      have hz3 : ((at_ : Int) - 1) < cs.length := by omega
      have HZ := Aside0.mk hz
      clear hz
      have Hgd := Aside0.mk hgd
      clear hgd
      have HP : Aside0 (∀ W : World, Below w.heap.size w W → W.cell? (ad.add ((at_ - 1) * 6)) = some (.int .i64 cs[at_ - 1].f0)) := ⟨fun W h => pw_cell_below h p0⟩
      clear p0 hprev
      generalize hcm : cs[at_ - 1] = cm at *
      clear hcm
      by_cases h12 : cm.f0 = 12
      · have h12a : (cm.f0 != 12) = false := by simp [h12]
        have H12 := Aside0.mk h12
        clear h12
        obtain ⟨b, hb⟩ : ∃ b, c.f5.any (outside cs.length) = b := ⟨_, rfl⟩
        have Hb := Aside0.mk hb
        clear hb
        go_enter Try.func22, Try.ntmps22
        go_wp2_with (first
          | (go_at_call 28; refine (fields_is _ _ Hf.out _).mono ?_; rintro e w' ⟨rfl, ⟨n1, rfl⟩⟩)
          | (go_at_call 41; refine (number_is _ _ _ _ true Hn.out (HI.out.below ?b) rfl (by omega) (Kd.C_below K3.out ?b) r3 (Kd.C_below K4.out ?b) r4 (Kd.C_below K5.out ?b) r5).mono ?_; (case b => exact pw_below_drewN (below_alloc (below_alloc (Below.refl _ _) _) _) _); rintro e w2 ⟨rfl, hb2⟩; obtain ⟨g0, g1, g2, g3⟩ := boxes hb2; clear hb2; have gp := HP.out _ g2)
          | (go_at_call 43; refine (containsOutside_calls _ _ _ w.heap.size (some ad) cs.length c2 _ (Kd.C_below K5.out ?b9) r5 ?c9).mono ?_; (case b9 => repeat (first | exact g2 | apply below_alloc | apply pw_below_drewN)); (case c9 => exact (g0 2).trans rfl); rintro e w' ⟨rfl, rfl⟩))
        rw [Hb.out]
        go_ret
        refine ⟨?_, by repeat (first | exact g2 | apply below_alloc | apply pw_below_drewN)⟩
        cases b with
        | true => exact .inr ⟨rfl, fun h => by have h_ := h.2.2.2.2.2.2.2.2.2; rw [Hb.out] at h_; cases h_⟩
        | false =>
          refine .inl ⟨rfl, ?_⟩
          exact ⟨by rw [Hf.out]; decide, Hn.out, fun _ => HhB.out, fun _ => HhT.out, fun h => by rw [Hf.out] at h; exact absurd h (by decide), fun _ => HhL.out, fun h => by rw [h] at h16; exact absurd h16 (by decide), fun h => by rw [h] at h26; exact absurd h26 (by decide), fun _ => ⟨HZ.out, by rw [Hgd.out]; exact H12.out⟩, Hb.out⟩
      · have h12a : (cm.f0 != 12) = true := by simp [h12]
        have H12 := Aside0.mk h12
        clear h12
        go_enter Try.func22, Try.ntmps22
        go_wp2_with (first
            | (go_at_call 28; refine (fields_is _ _ Hf.out _).mono ?_; rintro e w' ⟨rfl, ⟨n1, rfl⟩⟩)
            | (go_at_call 41; refine (number_is _ _ _ _ true Hn.out (HI.out.below ?b) rfl (by omega) (Kd.C_below K3.out ?b) r3 (Kd.C_below K4.out ?b) r4 (Kd.C_below K5.out ?b) r5).mono ?_; (case b => exact pw_below_drewN (below_alloc (below_alloc (Below.refl _ _) _) _) _); rintro e w2 ⟨rfl, hb2⟩; obtain ⟨g0, g1, g2, g3⟩ := boxes hb2; clear hb2; have gp := HP.out _ g2)
            | (go_at_call 43; refine (containsOutside_calls _ _ _ w.heap.size (some ad) cs.length c2 _ (Kd.C_below K5.out ?b9) r5 ?c9).mono ?_; (case b9 => repeat (first | exact g2 | apply below_alloc | apply pw_below_drewN)); (case c9 => exact (g0 2).trans rfl); rintro e w' ⟨rfl, rfl⟩))
        go_ret
        exact ⟨.inr ⟨rfl, fun h => H12.out (by have h_ := (h.2.2.2.2.2.2.2.2.1 H13.out).2; rw [Hgd.out] at h_; exact h_)⟩, by repeat (first | exact g2 | apply below_alloc | apply pw_below_drewN)⟩
  replace h13 : (c.f0 == 13) = false := by rw [beq_eq_false_iff_ne]; exact h13
  obtain ⟨b, hb⟩ : ∃ b, c.f5.any (outside cs.length) = b := ⟨_, rfl⟩
  have Hb := Aside0.mk hb
  clear hb
  go_enter Try.func22, Try.ntmps22
  go_wp2_with (first
    | (go_at_call 28; refine (fields_is _ _ Hf.out _).mono ?_; rintro e w' ⟨rfl, ⟨n1, rfl⟩⟩)
    | (go_at_call 41; refine (number_is _ _ _ _ true Hn.out (HI.out.below ?b) rfl (by omega) (Kd.C_below K3.out ?b) r3 (Kd.C_below K4.out ?b) r4 (Kd.C_below K5.out ?b) r5).mono ?_; (case b => exact pw_below_drewN (below_alloc (below_alloc (Below.refl _ _) _) _) _); rintro e w2 ⟨rfl, hb2⟩; obtain ⟨g0, g1, g2, g3⟩ := boxes hb2; clear hb2)
    | (go_at_call 43; refine (containsOutside_calls _ _ _ w.heap.size (some ad) cs.length c2 _ (Kd.C_below K5.out ?b9) r5 ?c9).mono ?_; (case b9 => repeat (first | exact g2 | apply below_alloc | apply pw_below_drewN)); (case c9 => exact (g0 2).trans rfl); rintro e w' ⟨rfl, rfl⟩))
  rw [Hb.out]
  go_ret
  refine ⟨?_, by repeat (first | exact g2 | apply below_alloc | apply pw_below_drewN)⟩
  cases b with
  | true => exact .inr ⟨rfl, fun h => by have h_ := h.2.2.2.2.2.2.2.2.2; rw [Hb.out] at h_; cases h_⟩
  | false =>
    refine .inl ⟨rfl, ?_⟩
    exact ⟨by rw [Hf.out]; decide, Hn.out, fun _ => HhB.out, fun _ => HhT.out, fun h => by rw [Hf.out] at h; exact absurd h (by decide), fun _ => HhL.out, fun h => by rw [h] at h16; exact absurd h16 (by decide), fun h => by rw [h] at h26; exact absurd h26 (by decide), fun h => by rw [h] at h13; exact absurd h13 (by decide), Hb.out⟩
set_option maxRecDepth 100000 in
set_option maxHeartbeats 1000000 in
theorem ins_f20 (A0 : Option Addr) (c0 : Nat) (A1 : Option Addr) (c1 : Nat) (A2 : Option Addr) (c2 : Nat) (es : List S45) (ts : List ByteArray) (cs : List S43) (at_ : Nat) (w : World) (hI : ImgAt w A0 c0 A1 c1 A2 c2 es ts cs) (hat : at_ < cs.length) (hz : Sized cs) (hn : numberOk ts.length cs[at_].f0 cs[at_].f1 cs[at_].f2 = true) (hf : fieldsOf cs[at_].f0 = 20) :
    Calls Try.prog 22 #[imgV A0 c0 A1 c1 A2 c2 es ts cs, .int .i64 at_] w fun e w' => Says (insOk ts cs at_ cs[at_]) e ∧ Below w.heap.size w w' := by
  have hnl := hI.r1.2.1
  obtain ⟨z3, z4, z5⟩ := hz cs[at_] (List.getElem_mem hat)
  have HI := Aside0.mk hI
  have hprev := Aside0.mk (fun h : at_ ≠ 0 => at_43 hI.r2 (at_ - 1) (by omega))
  obtain ⟨ad, A3, c3, A4, c4, A5, c5, rfl, q0, q1, q2, q3, q4, q5, r3, k3, r4, k4, r5, k5⟩ := at_43 hI.r2 at_ hat
  have hm := hI.r2.2.1
  have Hf := Aside0.mk hf
  have Hn := Aside0.mk hn
  have K3 := Aside0.mk k3
  have K4 := Aside0.mk k4
  have K5 := Aside0.mk k5
  clear hI hf hn hz k3 k4 k5
  generalize hcc : cs[at_] = c at *
  clear hcc
  replace q0 := cell_alloc q0
  replace q1 := cell_alloc q1
  replace q2 := cell_alloc q2
  replace q3 := cell_alloc q3
  replace q4 := cell_alloc q4
  replace q5 := cell_alloc q5
  have hmf : ∀ (fn : Fn) (first cap : Array Value) (w : World), (Instr.makeFunc fn first cap).run Try.prog w = .ok (.func fn first cap) w := fun _ _ _ _ => rfl
  have hb4 : bits BinOp.and IntKind.i64 20 4 = 4 := by decide
  have hb16 : bits BinOp.and IntKind.i64 20 24 = 16 := by decide
  have hb8 : bits BinOp.and IntKind.i64 20 8 = 0 := by decide
  have h16 : (c.f0 == 16) = false := by
    rw [beq_eq_false_iff_ne]
    intro e
    have h_ := Hf.out
    rw [e] at h_
    exact absurd h_ (by decide)
  have h26 : (c.f0 == 26) = true := by rw [beq_iff_eq]; exact op_of_20 Hf.out
  have h13 : (c.f0 == 13) = false := by
    rw [beq_eq_false_iff_ne]
    intro e
    have h_ := Hf.out
    rw [e] at h_
    exact absurd h_ (by decide)
  by_cases hB : c.f2 ≠ 0
  · have hB1 : (c.f2 != 0) = true := by simpa using hB
    have HhB := Aside0.mk hB
    clear hB
    go_enter Try.func22, Try.ntmps22
    go_wp2_with (first
        | (go_at_call 28; refine (fields_is _ _ Hf.out _).mono ?_; rintro e w' ⟨rfl, ⟨n1, rfl⟩⟩)
        | (go_at_call 41; refine (number_is _ _ _ _ true Hn.out (HI.out.below ?b) rfl (by omega) (Kd.C_below K3.out ?b) r3 (Kd.C_below K4.out ?b) r4 (Kd.C_below K5.out ?b) r5).mono ?_; (case b => exact pw_below_drewN (below_alloc (below_alloc (Below.refl _ _) _) _) _); rintro e w2 ⟨rfl, hb2⟩; obtain ⟨g0, g1, g2, g3⟩ := boxes hb2; clear hb2)
        | (go_at_call 43; refine (containsOutside_calls _ _ _ w.heap.size (some ad) cs.length c2 _ (Kd.C_below K5.out ?b9) r5 ?c9).mono ?_; (case b9 => repeat (first | exact g2 | apply below_alloc | apply pw_below_drewN)); (case c9 => exact (g0 2).trans rfl); rintro e w' ⟨rfl, rfl⟩))
    go_ret
    exact ⟨.inr ⟨rfl, fun h => HhB.out (h.2.2.1 (by rw [Hf.out]; decide))⟩, by repeat (first | exact g2 | apply below_alloc | apply pw_below_drewN)⟩
  replace hB : c.f2 = 0 := by simpa using hB
  have hB1 : (c.f2 != 0) = false := by simpa using hB
  have HhB := Aside0.mk hB
  clear hB
  by_cases hL : c.f5.length ≠ c.f3.length + c.f4.length + 1
  · have hL1 : ((c.f5.length : Int) != (c.f3.length : Int) + c.f4.length + 1) = true := by rw [bne_iff_ne]; omega
    have HhL := Aside0.mk hL
    clear hL
    go_enter Try.func22, Try.ntmps22
    go_wp2_with (first
        | (go_at_call 28; refine (fields_is _ _ Hf.out _).mono ?_; rintro e w' ⟨rfl, ⟨n1, rfl⟩⟩)
        | (go_at_call 41; refine (number_is _ _ _ _ true Hn.out (HI.out.below ?b) rfl (by omega) (Kd.C_below K3.out ?b) r3 (Kd.C_below K4.out ?b) r4 (Kd.C_below K5.out ?b) r5).mono ?_; (case b => exact pw_below_drewN (below_alloc (below_alloc (Below.refl _ _) _) _) _); rintro e w2 ⟨rfl, hb2⟩; obtain ⟨g0, g1, g2, g3⟩ := boxes hb2; clear hb2)
        | (go_at_call 43; refine (containsOutside_calls _ _ _ w.heap.size (some ad) cs.length c2 _ (Kd.C_below K5.out ?b9) r5 ?c9).mono ?_; (case b9 => repeat (first | exact g2 | apply below_alloc | apply pw_below_drewN)); (case c9 => exact (g0 2).trans rfl); rintro e w' ⟨rfl, rfl⟩))
    go_ret
    exact ⟨.inr ⟨rfl, fun h => HhL.out (h.2.2.2.2.2.2.2.1 (by simpa using h26)).1⟩, by repeat (first | exact g2 | apply below_alloc | apply pw_below_drewN)⟩
  replace hL : c.f5.length = c.f3.length + c.f4.length + 1 := by omega
  have hL1 : ((c.f5.length : Int) != (c.f3.length : Int) + c.f4.length + 1) = false := by rw [hL]; simp
  have HhL := Aside0.mk hL
  clear hL
  by_cases hR3 : risesB c.f3 = false
  · have rb3 : Aside0 (risesB c.f3 = false) := ⟨hR3⟩
    have HhR3 := Aside0.mk hR3
    clear hR3
    go_enter Try.func22, Try.ntmps22
    go_wp2_with (first
        | (go_at_call 28; refine (fields_is _ _ Hf.out _).mono ?_; rintro e w' ⟨rfl, ⟨n1, rfl⟩⟩)
        | (go_at_call 41; refine (number_is _ _ _ _ true Hn.out (HI.out.below ?b) rfl (by omega) (Kd.C_below K3.out ?b) r3 (Kd.C_below K4.out ?b) r4 (Kd.C_below K5.out ?b) r5).mono ?_; (case b => exact pw_below_drewN (below_alloc (below_alloc (Below.refl _ _) _) _) _); rintro e w2 ⟨rfl, hb2⟩; obtain ⟨g0, g1, g2, g3⟩ := boxes hb2; clear hb2)
        | (go_at_call 42; (with_reducible refine (rises_is A3 c3 c.f3 false rb3.out _ (Kd.C_below K3.out (by first | exact g2 | exact pw_below_drewN g2 _)) r3 (by omega)).mono ?_); rintro e w' ⟨rfl, ⟨n3, rfl⟩⟩)
        | (go_at_call 43; refine (containsOutside_calls _ _ _ w.heap.size (some ad) cs.length c2 _ (Kd.C_below K5.out ?b9) r5 ?c9).mono ?_; (case b9 => repeat (first | exact g2 | apply below_alloc | apply pw_below_drewN)); (case c9 => exact (g0 2).trans rfl); rintro e w' ⟨rfl, rfl⟩))
    go_ret
    exact ⟨.inr ⟨rfl, fun h => by have h_ := (h.2.2.2.2.2.2.2.1 (by simpa using h26)).2.1; rw [HhR3.out] at h_; cases h_⟩, by repeat (first | exact g2 | apply below_alloc | apply pw_below_drewN)⟩
  replace hR3 : risesB c.f3 = true := by simpa using hR3
  have rb3 : Aside0 (risesB c.f3 = true) := ⟨hR3⟩
  have HhR3 := Aside0.mk hR3
  clear hR3
  by_cases hR4 : risesB c.f4 = false
  · have rb4 : Aside0 (risesB c.f4 = false) := ⟨hR4⟩
    have HhR4 := Aside0.mk hR4
    clear hR4
    go_enter Try.func22, Try.ntmps22
    go_wp2_with (first
        | (go_at_call 28; refine (fields_is _ _ Hf.out _).mono ?_; rintro e w' ⟨rfl, ⟨n1, rfl⟩⟩)
        | (go_at_call 41; refine (number_is _ _ _ _ true Hn.out (HI.out.below ?b) rfl (by omega) (Kd.C_below K3.out ?b) r3 (Kd.C_below K4.out ?b) r4 (Kd.C_below K5.out ?b) r5).mono ?_; (case b => exact pw_below_drewN (below_alloc (below_alloc (Below.refl _ _) _) _) _); rintro e w2 ⟨rfl, hb2⟩; obtain ⟨g0, g1, g2, g3⟩ := boxes hb2; clear hb2)
        | (go_at_call 42; (with_reducible refine (rises_is A3 c3 c.f3 true rb3.out _ (Kd.C_below K3.out (by first | exact g2 | exact pw_below_drewN g2 _)) r3 (by omega)).mono ?_); rintro e w' ⟨rfl, ⟨n3, rfl⟩⟩)
        | (go_at_call 42; (with_reducible refine (rises_is A4 c4 c.f4 false rb4.out _ (Kd.C_below K4.out (by first | exact g2 | exact pw_below_drewN g2 _)) r4 (by omega)).mono ?_); rintro e w' ⟨rfl, ⟨n4, rfl⟩⟩)
        | (go_at_call 43; refine (containsOutside_calls _ _ _ w.heap.size (some ad) cs.length c2 _ (Kd.C_below K5.out ?b9) r5 ?c9).mono ?_; (case b9 => repeat (first | exact g2 | apply below_alloc | apply pw_below_drewN)); (case c9 => exact (g0 2).trans rfl); rintro e w' ⟨rfl, rfl⟩))
    go_ret
    exact ⟨.inr ⟨rfl, fun h => by have h_ := (h.2.2.2.2.2.2.2.1 (by simpa using h26)).2.2.1; rw [HhR4.out] at h_; cases h_⟩, by repeat (first | exact g2 | apply below_alloc | apply pw_below_drewN)⟩
  replace hR4 : risesB c.f4 = true := by simpa using hR4
  have rb4 : Aside0 (risesB c.f4 = true) := ⟨hR4⟩
  have HhR4 := Aside0.mk hR4
  clear hR4
  have hfin : ∀ (hT : c.f4 ≠ [] → 0 ≤ c.f4.getD 0 0 ∧ c.f4.getD (c.f4.length - 1) 0 ≤ 199) (hany : c.f5.any (outside cs.length) = false), insOk ts cs at_ c := fun hT hany => ⟨by rw [Hf.out]; decide, Hn.out, fun _ => HhB.out, fun h => absurd Hf.out h, fun h => by rw [Hf.out] at h; exact absurd h (by decide), fun h => by rw [Hf.out] at h; exact absurd h (by decide), fun h => by rw [h] at h16; exact absurd h16 (by decide), fun h => ⟨HhL.out, HhR3.out, HhR4.out, hT⟩, fun h => by rw [h] at h13; exact absurd h13 (by decide), hany⟩
  have Hfin := Aside0.mk hfin
  clear hfin
  by_cases e4 : c.f4 = []
  · have e4a : decide (0 < (c.f4.length : Int)) = false := decide_eq_false (by rw [e4]; simp)
    have e4n : ¬ 0 < c.f4.length := by rw [e4]; simp
    have E4 := Aside0.mk e4
    clear e4
    obtain ⟨b, hb⟩ : ∃ b, c.f5.any (outside cs.length) = b := ⟨_, rfl⟩
    have Hb := Aside0.mk hb
    clear hb
    go_enter Try.func22, Try.ntmps22
    go_wp2_with (first
      | (go_at_call 28; refine (fields_is _ _ Hf.out _).mono ?_; rintro e w' ⟨rfl, ⟨n1, rfl⟩⟩)
      | (go_at_call 41; refine (number_is _ _ _ _ true Hn.out (HI.out.below ?b) rfl (by omega) (Kd.C_below K3.out ?b) r3 (Kd.C_below K4.out ?b) r4 (Kd.C_below K5.out ?b) r5).mono ?_; (case b => exact pw_below_drewN (below_alloc (below_alloc (Below.refl _ _) _) _) _); rintro e w2 ⟨rfl, hb2⟩; obtain ⟨g0, g1, g2, g3⟩ := boxes hb2; clear hb2)
      | (go_at_call 42; (with_reducible refine (rises_is A3 c3 c.f3 true rb3.out _ (Kd.C_below K3.out (by first | exact g2 | exact pw_below_drewN g2 _)) r3 (by omega)).mono ?_); rintro e w' ⟨rfl, ⟨n3, rfl⟩⟩)
      | (go_at_call 42; (with_reducible refine (rises_is A4 c4 c.f4 true rb4.out _ (Kd.C_below K4.out (by first | exact g2 | exact pw_below_drewN g2 _)) r4 (by omega)).mono ?_); rintro e w' ⟨rfl, ⟨n4, rfl⟩⟩)
      | (go_at_call 43; refine (containsOutside_calls _ _ _ w.heap.size (some ad) cs.length c2 _ (Kd.C_below K5.out ?b9) r5 ?c9).mono ?_; (case b9 => repeat (first | exact g2 | apply below_alloc | apply pw_below_drewN)); (case c9 => exact (g0 2).trans rfl); rintro e w' ⟨rfl, rfl⟩))
    rw [Hb.out]
    go_ret
    refine ⟨?_, by repeat (first | exact g2 | apply below_alloc | apply pw_below_drewN)⟩
    cases b with
    | true => exact .inr ⟨rfl, fun h => by have h_ := h.2.2.2.2.2.2.2.2.2; rw [Hb.out] at h_; cases h_⟩
    | false =>
      refine .inl ⟨rfl, ?_⟩
      exact Hfin.out (fun h => absurd E4.out h) Hb.out
  have e4a : decide (0 < (c.f4.length : Int)) = true := decide_eq_true (by have := List.length_pos_iff.2 e4; omega)
  have hpos := List.length_pos_iff.2 e4
  have E4 := Aside0.mk e4
  clear e4
  obtain ⟨ad4, rfl, t0⟩ := at_int_nat K4.out 0 hpos
  obtain ⟨ad4', e_, t9⟩ := at_int_nat K4.out (c.f4.length - 1) (by omega)
  cases e_
  have HT0 : Aside0 (∀ W : World, Below w.heap.size w W → W.cell? (ad4.add 0) = some (.int .i64 (c.f4.getD 0 0)) ∧ W.cell? (ad4.add (c.f4.length - 1)) = some (.int .i64 (c.f4.getD (c.f4.length - 1) 0))) := ⟨fun W h => ⟨by have h_ := pw_cell_below h t0; simpa [List.getD_eq_getElem?_getD, hpos] using h_, by have h_ := pw_cell_below h t9; rw [List.getD_eq_getElem?_getD, List.getElem?_eq_getElem (by omega)]; exact h_⟩⟩
  have hl2 : ((c.f4.length : Int) - 1).toNat = c.f4.length - 1 := by omega
  have hl3 : (1 : Int) ≤ c.f4.length := by omega
  clear t0 t9
  obtain ⟨x0, hx0⟩ : ∃ x, c.f4.getD 0 0 = x := ⟨_, rfl⟩
  obtain ⟨x9, hx9⟩ : ∃ x, c.f4.getD (c.f4.length - 1) 0 = x := ⟨_, rfl⟩
  rw [hx0, hx9] at HT0
  have X0 := Aside0.mk hx0
  have X9 := Aside0.mk hx9
  clear hx0 hx9
  by_cases hX0 : x0 < 0
  · have x0a : decide (x0 < 0) = true := decide_eq_true hX0
    have HhX0 := Aside0.mk hX0
    clear hX0
    go_enter Try.func22, Try.ntmps22
    go_wp2_with (first
        | (go_at_call 28; refine (fields_is _ _ Hf.out _).mono ?_; rintro e w' ⟨rfl, ⟨n1, rfl⟩⟩)
        | (go_at_call 41; refine (number_is _ _ _ _ true Hn.out (HI.out.below ?b) rfl (by omega) (Kd.C_below K3.out ?b) r3 (Kd.C_below K4.out ?b) r4 (Kd.C_below K5.out ?b) r5).mono ?_; (case b => exact pw_below_drewN (below_alloc (below_alloc (Below.refl _ _) _) _) _); rintro e w2 ⟨rfl, hb2⟩; obtain ⟨g0, g1, g2, g3⟩ := boxes hb2; clear hb2; obtain ⟨gp0, gp9⟩ := HT0.out _ g2; have gp1 := gp0; rw [Addr.add_zero'] at gp1)
        | (go_at_call 42; (with_reducible refine (rises_is A3 c3 c.f3 true rb3.out _ (Kd.C_below K3.out (by first | exact g2 | exact pw_below_drewN g2 _)) r3 (by omega)).mono ?_); rintro e w' ⟨rfl, ⟨n3, rfl⟩⟩)
        | (go_at_call 42; (with_reducible refine (rises_is (some ad4) c4 c.f4 true rb4.out _ (Kd.C_below K4.out (by first | exact g2 | exact pw_below_drewN g2 _)) r4 (by omega)).mono ?_); rintro e w' ⟨rfl, ⟨n4, rfl⟩⟩)
        | (go_at_call 43; refine (containsOutside_calls _ _ _ w.heap.size (some ad) cs.length c2 _ (Kd.C_below K5.out ?b9) r5 ?c9).mono ?_; (case b9 => repeat (first | exact g2 | apply below_alloc | apply pw_below_drewN)); (case c9 => exact (g0 2).trans rfl); rintro e w' ⟨rfl, rfl⟩))
    go_ret
    exact ⟨.inr ⟨rfl, fun h => by have h_ := ((h.2.2.2.2.2.2.2.1 (by simpa using h26)).2.2.2 E4.out).1; have h1_ := HhX0.out; rw [X0.out] at h_; omega⟩, by repeat (first | exact g2 | apply below_alloc | apply pw_below_drewN)⟩
  replace hX0 : 0 ≤ x0 := by omega
  have x0a : decide (x0 < 0) = false := decide_eq_false (by omega)
  have HhX0 := Aside0.mk hX0
  clear hX0
  by_cases hX9 : 199 < x9
  · have x9a : decide (199 < x9) = true := decide_eq_true hX9
    have HhX9 := Aside0.mk hX9
    clear hX9
    go_enter Try.func22, Try.ntmps22
    go_wp2_with (first
        | (go_at_call 28; refine (fields_is _ _ Hf.out _).mono ?_; rintro e w' ⟨rfl, ⟨n1, rfl⟩⟩)
        | (go_at_call 41; refine (number_is _ _ _ _ true Hn.out (HI.out.below ?b) rfl (by omega) (Kd.C_below K3.out ?b) r3 (Kd.C_below K4.out ?b) r4 (Kd.C_below K5.out ?b) r5).mono ?_; (case b => exact pw_below_drewN (below_alloc (below_alloc (Below.refl _ _) _) _) _); rintro e w2 ⟨rfl, hb2⟩; obtain ⟨g0, g1, g2, g3⟩ := boxes hb2; clear hb2; obtain ⟨gp0, gp9⟩ := HT0.out _ g2; have gp1 := gp0; rw [Addr.add_zero'] at gp1)
        | (go_at_call 42; (with_reducible refine (rises_is A3 c3 c.f3 true rb3.out _ (Kd.C_below K3.out (by first | exact g2 | exact pw_below_drewN g2 _)) r3 (by omega)).mono ?_); rintro e w' ⟨rfl, ⟨n3, rfl⟩⟩)
        | (go_at_call 42; (with_reducible refine (rises_is (some ad4) c4 c.f4 true rb4.out _ (Kd.C_below K4.out (by first | exact g2 | exact pw_below_drewN g2 _)) r4 (by omega)).mono ?_); rintro e w' ⟨rfl, ⟨n4, rfl⟩⟩)
        | (go_at_call 43; refine (containsOutside_calls _ _ _ w.heap.size (some ad) cs.length c2 _ (Kd.C_below K5.out ?b9) r5 ?c9).mono ?_; (case b9 => repeat (first | exact g2 | apply below_alloc | apply pw_below_drewN)); (case c9 => exact (g0 2).trans rfl); rintro e w' ⟨rfl, rfl⟩))
    go_ret
    exact ⟨.inr ⟨rfl, fun h => by have h_ := ((h.2.2.2.2.2.2.2.1 (by simpa using h26)).2.2.2 E4.out).2; have h1_ := HhX9.out; rw [X9.out] at h_; omega⟩, by repeat (first | exact g2 | apply below_alloc | apply pw_below_drewN)⟩
  replace hX9 : x9 ≤ 199 := by omega
  have x9a : decide (199 < x9) = false := decide_eq_false (by omega)
  have HhX9 := Aside0.mk hX9
  clear hX9
  obtain ⟨b, hb⟩ : ∃ b, c.f5.any (outside cs.length) = b := ⟨_, rfl⟩
  have Hb := Aside0.mk hb
  clear hb
  go_enter Try.func22, Try.ntmps22
  go_wp2_with (first
    | (go_at_call 28; refine (fields_is _ _ Hf.out _).mono ?_; rintro e w' ⟨rfl, ⟨n1, rfl⟩⟩)
    | (go_at_call 41; refine (number_is _ _ _ _ true Hn.out (HI.out.below ?b) rfl (by omega) (Kd.C_below K3.out ?b) r3 (Kd.C_below K4.out ?b) r4 (Kd.C_below K5.out ?b) r5).mono ?_; (case b => exact pw_below_drewN (below_alloc (below_alloc (Below.refl _ _) _) _) _); rintro e w2 ⟨rfl, hb2⟩; obtain ⟨g0, g1, g2, g3⟩ := boxes hb2; clear hb2; obtain ⟨gp0, gp9⟩ := HT0.out _ g2; have gp1 := gp0; rw [Addr.add_zero'] at gp1)
    | (go_at_call 42; (with_reducible refine (rises_is A3 c3 c.f3 true rb3.out _ (Kd.C_below K3.out (by first | exact g2 | exact pw_below_drewN g2 _)) r3 (by omega)).mono ?_); rintro e w' ⟨rfl, ⟨n3, rfl⟩⟩)
    | (go_at_call 42; (with_reducible refine (rises_is (some ad4) c4 c.f4 true rb4.out _ (Kd.C_below K4.out (by first | exact g2 | exact pw_below_drewN g2 _)) r4 (by omega)).mono ?_); rintro e w' ⟨rfl, ⟨n4, rfl⟩⟩)
    | (go_at_call 43; refine (containsOutside_calls _ _ _ w.heap.size (some ad) cs.length c2 _ (Kd.C_below K5.out ?b9) r5 ?c9).mono ?_; (case b9 => repeat (first | exact g2 | apply below_alloc | apply pw_below_drewN)); (case c9 => exact (g0 2).trans rfl); rintro e w' ⟨rfl, rfl⟩))
  rw [Hb.out]
  go_ret
  refine ⟨?_, by repeat (first | exact g2 | apply below_alloc | apply pw_below_drewN)⟩
  cases b with
  | true => exact .inr ⟨rfl, fun h => by have h_ := h.2.2.2.2.2.2.2.2.2; rw [Hb.out] at h_; cases h_⟩
  | false =>
    refine .inl ⟨rfl, ?_⟩
    exact Hfin.out (fun _ => by rw [X0.out, X9.out]; exact ⟨HhX0.out, HhX9.out⟩) Hb.out
theorem fields_range (op : Int) : fieldsOf op = -1 ∨ fieldsOf op = 0 ∨ fieldsOf op = 1 ∨ fieldsOf op = 3 ∨ fieldsOf op = 8 ∨ fieldsOf op = 9 ∨ fieldsOf op = 17 ∨ fieldsOf op = 20 := by
  by_cases e1 : op = 1
  · subst e1; decide
  by_cases e2 : op = 2
  · subst e2; decide
  by_cases e3 : op = 3
  · subst e3; decide
  by_cases e4 : op = 4
  · subst e4; decide
  by_cases e5 : op = 5
  · subst e5; decide
  by_cases e6 : op = 6
  · subst e6; decide
  by_cases e7 : op = 7
  · subst e7; decide
  by_cases e8 : op = 8
  · subst e8; decide
  by_cases e9 : op = 9
  · subst e9; decide
  by_cases e10 : op = 10
  · subst e10; decide
  by_cases e11 : op = 11
  · subst e11; decide
  by_cases e12 : op = 12
  · subst e12; decide
  by_cases e13 : op = 13
  · subst e13; decide
  by_cases e14 : op = 14
  · subst e14; decide
  by_cases e15 : op = 15
  · subst e15; decide
  by_cases e16 : op = 16
  · subst e16; decide
  by_cases e17 : op = 17
  · subst e17; decide
  by_cases e18 : op = 18
  · subst e18; decide
  by_cases e19 : op = 19
  · subst e19; decide
  by_cases e20 : op = 20
  · subst e20; decide
  by_cases e21 : op = 21
  · subst e21; decide
  by_cases e22 : op = 22
  · subst e22; decide
  by_cases e23 : op = 23
  · subst e23; decide
  by_cases e24 : op = 24
  · subst e24; decide
  by_cases e25 : op = 25
  · subst e25; decide
  by_cases e26 : op = 26
  · subst e26; decide
  by_cases e27 : op = 27
  · subst e27; decide
  by_cases e28 : op = 28
  · subst e28; decide
  by_cases e29 : op = 29
  · subst e29; decide
  by_cases e30 : op = 30
  · subst e30; decide
  left
  simp only [fieldsOf, e1, e2, e3, e4, e5, e6, e7, e8, e9, e10, e11, e12, e13, e14, e15, e16, e17, e18, e19, e20, e21, e22, e23, e24, e25, e26, e27, e28, e29, e30, if_false]
theorem ins_calls (A0 : Option Addr) (c0 : Nat) (A1 : Option Addr) (c1 : Nat) (A2 : Option Addr) (c2 : Nat) (es : List S45) (ts : List ByteArray) (cs : List S43) (at_ : Nat) (w : World) (hI : ImgAt w A0 c0 A1 c1 A2 c2 es ts cs) (hat : at_ < cs.length) (hz : Sized cs) :
    Calls Try.prog 22 #[imgV A0 c0 A1 c1 A2 c2 es ts cs, .int .i64 at_] w fun e w' => Says (insOk ts cs at_ cs[at_]) e ∧ Below w.heap.size w w' := by
  by_cases hf : fieldsOf cs[at_].f0 = -1
  · exact (ins_none A0 c0 A1 c1 A2 c2 es ts cs at_ w hI hat hf).mono fun e w' ⟨h1, h2⟩ => ⟨.inr ⟨h1, fun h => by have := h.1; omega⟩, h2⟩
  have hr := fields_range cs[at_].f0
  cases hn : numberOk ts.length cs[at_].f0 cs[at_].f1 cs[at_].f2 with
  | false => exact (ins_number A0 c0 A1 c1 A2 c2 es ts cs at_ w hI hat _ (by omega) rfl hn).mono fun e w' ⟨h1, h2⟩ => ⟨.inr ⟨h1, fun h => by have h_ := h.2.1; rw [hn] at h_; cases h_⟩, h2⟩
  | true =>
    rcases hr with h | h | h | h | h | h | h | h
    · exact absurd h hf
    · exact ins_f0 A0 c0 A1 c1 A2 c2 es ts cs at_ w hI hat hz hn h
    · exact ins_f1 A0 c0 A1 c1 A2 c2 es ts cs at_ w hI hat hz hn h
    · exact ins_f3 A0 c0 A1 c1 A2 c2 es ts cs at_ w hI hat hz hn h
    · exact ins_f8 A0 c0 A1 c1 A2 c2 es ts cs at_ w hI hat hz hn h
    · exact ins_f9 A0 c0 A1 c1 A2 c2 es ts cs at_ w hI hat hz hn h
    · exact ins_f17 A0 c0 A1 c1 A2 c2 es ts cs at_ w hI hat hz hn h
    · exact ins_f20 A0 c0 A1 c1 A2 c2 es ts cs at_ w hI hat hz hn h
end Go.Proofs.Ytmjafkhkoifopaa.C16
end
section
/- code.May: may an image be? -/
namespace Go.Proofs.Ytmjafkhkoifopaa.C16
open Go.RowKit Go.Proofs.YtmjafkhkoifopaaW.PrintWords Go.Proofs.YtmjafkhkoifopaaW.PrintLast Go.Proofs.YtmjafkhkoifopaaW.PrintMore Go.Proofs.Ytmjafkhkoifopaa.PCodeDecodes
set_option linter.unusedVariables false
set_option linter.unusedSimpArgs false

/-- What tells a thing tells this Bool. -/
theorem Says.is {P : Prop} {e : Ending} (h : Says P e) {b : Bool} (hb : b = true ↔ P) : e = .returned (.bool b) := by
  rcases h with ⟨rfl, hp⟩ | ⟨rfl, hp⟩
  · rw [hb.2 hp]
  · cases b with
    | true => exact absurd (hb.1 rfl) hp
    | false => rfl
theorem bool_of (P : Prop) : ∃ b : Bool, b = true ↔ P := by
  by_cases h : P
  · exact ⟨true, fun _ => h, fun _ => rfl⟩
  · exact ⟨false, fun e => (by cases e), fun e => absurd e h⟩
theorem Says.yes {P : Prop} (h : P) : Says P (.returned (.bool true)) := .inl ⟨rfl, h⟩
theorem Says.no {P : Prop} (h : ¬ P) : Says P (.returned (.bool false)) := .inr ⟨rfl, h⟩

def ExnsOk (es : List S45) : Prop := 6 ≤ es.length ∧ es.length ≤ 200 ∧ ∀ k, k < es.length → exnOk es k
theorem exns_calls (A : Option Addr) (c : Nat) (l0 : List S45) (w : World) (hr : Kd.C k45 w A l0.length l0) (hc : l0.length ≤ c) :
    Calls Try.prog 19 #[.slice A l0.length c] w fun e w' => Says (ExnsOk l0) e ∧ Below w.heap.size w w' := by
  by_cases h : 6 ≤ l0.length ∧ l0.length ≤ 200
  · refine (exns_loop A c l0 w hr hc h.1 h.2).mono fun e w' ⟨h1, h2⟩ => ⟨?_, h2⟩
    rcases h1 with ⟨h1, h3⟩ | ⟨h1, k, hk, h3⟩
    · exact .inl ⟨h1, h.1, h.2, h3⟩
    · exact .inr ⟨h1, fun h4 => h3 (h4.2.2 k hk)⟩
  · exact (exns_small A c l0 w hr hc (by omega)).mono fun e w' ⟨h1, h2⟩ => ⟨.inr ⟨h1, fun h4 => h ⟨h4.1, h4.2.1⟩⟩, h2⟩

def MayOk (es : List S45) (ts : List ByteArray) (cs : List S43) : Prop :=
  ExnsOk es ∧ ts.length ≤ 1000 ∧ cs ≠ [] ∧ cs.length ≤ 8000 ∧ ts.any tooLong = false ∧ ∀ k (h : k < cs.length), insOk ts cs k cs[k]

theorem box1 {w w2 : World} {n : Nat} {x : Array Value} (hb : Below ((w.alloc (.cells x 26)).drewN n).heap.size ((w.alloc (.cells x 26)).drewN n) w2) :
    (∀ j, w2.cell? ⟨w.heap.size, j, none⟩ = x[j]?) ∧ Below w.heap.size w w2 ∧ w.heap.size < w2.heap.size := by
  have hs := hb.size
  simp at hs
  refine ⟨fun j => ?_, ?_, by omega⟩
  · refine (hb.cell (p := ⟨w.heap.size, j, none⟩) (by simp)).trans ?_
    simp [go_sem]
  · exact below_then (pw_below_drewN (below_alloc (Below.refl _ _) _) n) (by simp) hb

set_option maxRecDepth 100000 in
set_option maxHeartbeats 1000000 in
theorem may_calls (A0 : Option Addr) (c0 : Nat) (A1 : Option Addr) (c1 : Nat) (A2 : Option Addr) (c2 : Nat) (es : List S45) (ts : List ByteArray) (cs : List S43) (w : World) (hI : ImgAt w A0 c0 A1 c1 A2 c2 es ts cs) (hz : Sized cs) :
    Calls Try.prog 11 #[imgV A0 c0 A1 c1 A2 c2 es ts cs] w fun e w' => Says (MayOk es ts cs) e ∧ Below w.heap.size w w' := by
  have HI := Aside0.mk hI
  have HZ := Aside0.mk hz
  have m0 := hI.r0.2.1
  have m1 := hI.r1.2.1
  have m2 := hI.r2.2.1
  clear hI hz
  obtain ⟨bE, hbE⟩ : ∃ b : Bool, b = true ↔ ExnsOk es := bool_of _
  have HbE := Aside0.mk hbE
  clear hbE
  cases bE with
  | false =>
    go_enter Try.func11, Try.ntmps11
    go_wp2_with (go_at_call 19; refine (exns_calls _ _ _ _ (Kd.C_below HI.out.r0 ?b1) HI.out.l0).mono ?_; (case b1 => exact below_alloc (Below.refl _ _) _); rintro e w1 ⟨hs, hb⟩; obtain rfl := hs.is HbE.out; clear hs; obtain ⟨g0, g2, g3⟩ := box1 (n := 0) hb; clear hb)
    go_ret
    exact ⟨.no fun h => absurd (HbE.out.2 h.1) (by simp), g2⟩
  | true =>
    by_cases h1 : 1000 < ts.length
    · have h1a : decide ((1000 : Int) < ts.length) = true := decide_eq_true (by omega)
      go_enter Try.func11, Try.ntmps11
      go_wp2_with (go_at_call 19; refine (exns_calls _ _ _ _ (Kd.C_below HI.out.r0 ?b2) HI.out.l0).mono ?_; (case b2 => exact below_alloc (Below.refl _ _) _); rintro e w1 ⟨hs, hb⟩; obtain rfl := hs.is HbE.out; clear hs; obtain ⟨g0, g2, g3⟩ := box1 (n := 0) hb; clear hb)
      go_ret
      exact ⟨.no (fun h => by have := h.2.1; omega), g2⟩
    have h1a : decide ((1000 : Int) < ts.length) = false := decide_eq_false (by omega)
    by_cases h2 : cs = []
    · have h2a : ((cs.length : Int) == 0) = true := by simp [h2]
      have H2 := Aside0.mk h2
      clear h2
      go_enter Try.func11, Try.ntmps11
      go_wp2_with (go_at_call 19; refine (exns_calls _ _ _ _ (Kd.C_below HI.out.r0 ?b3) HI.out.l0).mono ?_; (case b3 => exact below_alloc (Below.refl _ _) _); rintro e w1 ⟨hs, hb⟩; obtain rfl := hs.is HbE.out; clear hs; obtain ⟨g0, g2, g3⟩ := box1 (n := 0) hb; clear hb)
      go_ret
      exact ⟨.no fun h => h.2.2.1 H2.out, g2⟩
    have h2a : ((cs.length : Int) == 0) = false := by rw [beq_eq_false_iff_ne]; intro e; exact h2 (List.eq_nil_of_length_eq_zero (by omega))
    have H2 := Aside0.mk h2
    clear h2
    by_cases h3 : 8000 < cs.length
    · have h3a : decide ((8000 : Int) < cs.length) = true := decide_eq_true (by omega)
      go_enter Try.func11, Try.ntmps11
      go_wp2_with (go_at_call 19; refine (exns_calls _ _ _ _ (Kd.C_below HI.out.r0 ?b4) HI.out.l0).mono ?_; (case b4 => exact below_alloc (Below.refl _ _) _); rintro e w1 ⟨hs, hb⟩; obtain rfl := hs.is HbE.out; clear hs; obtain ⟨g0, g2, g3⟩ := box1 (n := 0) hb; clear hb)
      go_ret
      exact ⟨.no (fun h => by have := h.2.2.2.1; omega), g2⟩
    have h3a : decide ((8000 : Int) < cs.length) = false := decide_eq_false (by omega)
    obtain ⟨bT, hbT⟩ : ∃ b, ts.any tooLong = b := ⟨_, rfl⟩
    have HbT := Aside0.mk hbT
    clear hbT
    cases bT with
    | true =>
      go_enter Try.func11, Try.ntmps11
      go_wp2_with (first
        | (go_at_call 19; refine (exns_calls _ _ _ _ (Kd.C_below HI.out.r0 ?b5) HI.out.l0).mono ?_; (case b5 => exact below_alloc (Below.refl _ _) _); rintro e w1 ⟨hs, hb⟩; obtain rfl := hs.is HbE.out; clear hs; obtain ⟨g0, g2, g3⟩ := box1 (n := 0) hb; clear hb)
        | (go_at_call 20; refine (containsLong_calls _ _ _ _ (Kd.C_below HI.out.r1 ?b6) HI.out.l1).mono ?_; (case b6 => exact g2); rintro e w' ⟨rfl, rfl⟩; rw [HbT.out]))
      go_ret
      exact ⟨.no (fun h => by have h_ := h.2.2.2.2.1; rw [HbT.out] at h_; cases h_), g2⟩
    | false =>
      go_enter Try.func11, Try.ntmps11
      go_wp2_with (first
        | (go_at_call 19; refine (exns_calls _ _ _ _ (Kd.C_below HI.out.r0 ?b7) HI.out.l0).mono ?_; (case b7 => exact below_alloc (Below.refl _ _) _); rintro e w1 ⟨hs, hb⟩; obtain rfl := hs.is HbE.out; clear hs; obtain ⟨g0, g2, g3⟩ := box1 (n := 0) hb; clear hb)
        | (go_at_call 20; refine (containsLong_calls _ _ _ _ (Kd.C_below HI.out.r1 ?b8) HI.out.l1).mono ?_; (case b8 => exact g2); rintro e w' ⟨rfl, rfl⟩; rw [HbT.out]))
      go_loopw [32] (fun i wr => ∃ k : Nat, k ≤ cs.length ∧ i = .int .i64 k ∧ (∀ j, wr.cell? ⟨w.heap.size, j, none⟩ = #[Value.slice A0 es.length c0, .slice A1 ts.length c1, .slice A2 cs.length c2][j]?) ∧ Below w.heap.size w wr ∧ Aside0 (w.heap.size < wr.heap.size) ∧ Aside0 (∀ j (h : j < cs.length), j < k → insOk ts cs j cs[j]))
        (fun i _ => cs.length - (intOf i).toNat)
      case atStart => exact ⟨0, Nat.zero_le _, rfl, g0, g2, ⟨g3⟩, ⟨fun j h1 h2 => absurd h2 (by omega)⟩⟩
      case round =>
        clear g0 g2 g3
        obtain ⟨k, hk, rfl, g0, g2, G3, HB⟩ := hrel
        by_cases hlt : k < cs.length
        · obtain ⟨bI, hbI⟩ : ∃ b : Bool, b = true ↔ insOk ts cs k cs[k] := bool_of _
          have HbI := Aside0.mk hbI
          clear hbI
          cases bI with
          | false =>
            go_wp2_with (go_at_call 22; refine (ins_calls A0 c0 A1 c1 A2 c2 es ts cs k _ (HI.out.below g2) hlt HZ.out).mono ?_; rintro e w2 ⟨hs, hb⟩; obtain rfl := hs.is HbI.out; clear hs)
            go_ret
            exact ⟨.no fun h => absurd (HbI.out.2 (h.2.2.2.2.2 k hlt)) (by simp), below_then g2 g2.size hb⟩
          | true =>
            go_wp2_with (go_at_call 22; refine (ins_calls A0 c0 A1 c1 A2 c2 es ts cs k _ (HI.out.below g2) hlt HZ.out).mono ?_; rintro e w2 ⟨hs, hb⟩; obtain rfl := hs.is HbI.out; clear hs)
            have R1 : (∀ j, w2.cell? ⟨w.heap.size, j, none⟩ = #[Value.slice A0 es.length c0, .slice A1 ts.length c1, .slice A2 cs.length c2][j]?) ∧ Below w.heap.size w w2 ∧ Aside0 (w.heap.size < w2.heap.size) :=
              ⟨fun j => (hb.cell (p := ⟨w.heap.size, j, none⟩) G3.out).trans (g0 j), below_then g2 g2.size hb, ⟨by have := hb.size; have := G3.out; omega⟩⟩
            clear g0 g2 hb
            go_roundw
            case rel =>
              refine ⟨k + 1, by omega, by go_num, R1.1, R1.2.1, R1.2.2, ⟨fun j h1 h2 => ?_⟩⟩
              by_cases hj : j < k
              · exact HB.out j h1 hj
              · obtain rfl : j = k := by omega
                exact HbI.out.1 (by simp)
            case measure => simp [intOf]; omega
        · go_wp2
          go_ret
          exact ⟨.yes ⟨HbE.out.1 (by simp), by omega, H2.out, by omega, HbT.out, fun j h => HB.out j h (by omega)⟩, g2⟩
end Go.Proofs.Ytmjafkhkoifopaa.C16
end
