import Derived.Test.YtmjafkhkoifopaaVM1
import Derived.Test.YtmjafkhkoifopaaVM4
import Derived.KernelRfl
section
-- A cut of a printed text.
namespace Go.Proofs.Ytmjafkhkoifopaa.PCodeDecodes
open Go.RowKit Go.Proofs.YtmjafkhkoifopaaW.PrintWords Go.Proofs.YtmjafkhkoifopaaW.PrintLast Go.Proofs.YtmjafkhkoifopaaW.PrintMore
attribute [local go_sem] max2_int min2_int max_two min_two max_three min_three max_four min_four   -- for this text's walks alone
set_option linter.unusedVariables false
set_option linter.unusedSimpArgs false

/-! ### grapnelref16_Exns: function 23 -/
mutual
def grapnelref16_Exns.j0 : Nat → List (S45) → List ByteArray → Bool → Option (Bool)
  | 0, _, _, _ => none
  | k + 1, x0, x3, x14 => if x14 = true then (some false) else (grapnelref16_Exns.l0 k x0 x3 0)
def grapnelref16_Exns.l0 : Nat → List (S45) → List ByteArray → Int → Option (Bool)
  | 0, _, _, _ => none
  | k + 1, x0, x3, x4 => if x4 < (x0.length : Int) then (if 0 ≤ x4 then (if (((rd_T45 x0 x4).f0).size : Int) = 0 then (grapnelref16_Exns.j2 k x0 x3 x4 true) else (if (((rd_T45 x0 x4).f0).size : Int) > 4096 then (grapnelref16_Exns.j2 k x0 x3 x4 true) else (if x4 < 6 then (if x4 < (x3.length : Int) then (if ((rd_T45 x0 x4).f0).toList = (rdOf ByteArray.empty x3 x4).toList then (grapnelref16_Exns.j2 k x0 x3 x4 (((rd_T45 x0 x4).f1) != (x4 == 5))) else (grapnelref16_Exns.j2 k x0 x3 x4 true)) else (none)) else (grapnelref16_Exns.j2 k x0 x3 x4 false)))) else (none)) else (some true)
def grapnelref16_Exns.j2 : Nat → List (S45) → List ByteArray → Int → Bool → Option (Bool)
  | 0, _, _, _, _ => none
  | k + 1, x0, x3, x4, x62 => if x62 = true then (some false) else (grapnelref16_Exns.l1 k x0 x3 x4 0)
def grapnelref16_Exns.l1 : Nat → List (S45) → List ByteArray → Int → Int → Option (Bool)
  | 0, _, _, _, _ => none
  | k + 1, x0, x3, x4, x5 => if x5 < x4 then (if 0 ≤ x5 then (if x5 < (x0.length : Int) then (if 0 ≤ x4 then (if x4 < (x0.length : Int) then (if ((rd_T45 x0 x5).f0).toList = ((rd_T45 x0 x4).f0).toList then (some false) else (grapnelref16_Exns.l1 k x0 x3 x4 (wrap64 (x5 + 1)))) else (none)) else (none)) else (none)) else (none)) else (grapnelref16_Exns.l0 k x0 x3 (wrap64 (x4 + 1)))
end
def grapnelref16_Exns.f (k : Nat) (l0 : List (S45)) : Option (Bool) := (some (([(⟨#[77, 97, 116, 99, 104, 95, 102, 97, 105, 108, 117, 114, 101]⟩ : ByteArray), (⟨#[68, 105, 118, 105, 115, 105, 111, 110, 95, 98, 121, 95, 122, 101, 114, 111]⟩ : ByteArray), (⟨#[73, 110, 118, 97, 108, 105, 100, 95, 97, 114, 103, 117, 109, 101, 110, 116]⟩ : ByteArray), (⟨#[69, 110, 100, 95, 111, 102, 95, 102, 105, 108, 101]⟩ : ByteArray), (⟨#[78, 111, 116, 95, 102, 111, 117, 110, 100]⟩ : ByteArray), (⟨#[70, 97, 105, 108, 117, 114, 101]⟩ : ByteArray)] : List ByteArray) : List ByteArray)).bind fun y185 => (if (l0.length : Int) < 6 then (grapnelref16_Exns.j0 k l0 y185 true) else (grapnelref16_Exns.j0 k l0 y185 (decide ((l0.length : Int) > 200))))
theorem grapnelref16_Exns.mono_l : ∀ k, (∀ y0 y1 y2, LeO (grapnelref16_Exns.j0 k y0 y1 y2) (grapnelref16_Exns.j0 (k + 1) y0 y1 y2)) ∧ (∀ y0 y1 y2, LeO (grapnelref16_Exns.l0 k y0 y1 y2) (grapnelref16_Exns.l0 (k + 1) y0 y1 y2)) ∧ (∀ y0 y1 y2 y3, LeO (grapnelref16_Exns.j2 k y0 y1 y2 y3) (grapnelref16_Exns.j2 (k + 1) y0 y1 y2 y3)) ∧ (∀ y0 y1 y2 y3, LeO (grapnelref16_Exns.l1 k y0 y1 y2 y3) (grapnelref16_Exns.l1 (k + 1) y0 y1 y2 y3))
  | 0 => ⟨fun _ _ _ r h => by simp [grapnelref16_Exns.j0] at h, fun _ _ _ r h => by simp [grapnelref16_Exns.l0] at h, fun _ _ _ _ r h => by simp [grapnelref16_Exns.j2] at h, fun _ _ _ _ r h => by simp [grapnelref16_Exns.l1] at h⟩
  | k + 1 => by
    obtain ⟨ih0, ih1, ih2, ih3⟩ := grapnelref16_Exns.mono_l k
    refine ⟨?_, ?_, ?_, ?_⟩
    · intro y0 y1 y2
      unfold grapnelref16_Exns.j0
      repeat' first
      | (with_reducible exact ih0 _ _ _)
      | (with_reducible exact ih1 _ _ _)
      | (with_reducible exact ih2 _ _ _ _)
      | (with_reducible exact ih3 _ _ _ _)
      | (with_reducible exact LeO.refl _)
      | (with_reducible exact LeO.none _)
      | (with_reducible refine LeO.ite ?_ ?_)
      | (with_reducible refine LeO.bind ?_ (fun _ => ?_))
      | exact ih0 _ _ _
      | exact ih1 _ _ _
      | exact ih2 _ _ _ _
      | exact ih3 _ _ _ _
      | exact LeO.none _
      | refine LeO.ite ?_ ?_
      | refine LeO.bind ?_ (fun _ => ?_)
    · intro y0 y1 y2
      unfold grapnelref16_Exns.l0
      repeat' first
      | (with_reducible exact ih0 _ _ _)
      | (with_reducible exact ih1 _ _ _)
      | (with_reducible exact ih2 _ _ _ _)
      | (with_reducible exact ih3 _ _ _ _)
      | (with_reducible exact LeO.refl _)
      | (with_reducible exact LeO.none _)
      | (with_reducible refine LeO.ite ?_ ?_)
      | (with_reducible refine LeO.bind ?_ (fun _ => ?_))
      | exact ih0 _ _ _
      | exact ih1 _ _ _
      | exact ih2 _ _ _ _
      | exact ih3 _ _ _ _
      | exact LeO.none _
      | refine LeO.ite ?_ ?_
      | refine LeO.bind ?_ (fun _ => ?_)
    · intro y0 y1 y2 y3
      unfold grapnelref16_Exns.j2
      repeat' first
      | (with_reducible exact ih0 _ _ _)
      | (with_reducible exact ih1 _ _ _)
      | (with_reducible exact ih2 _ _ _ _)
      | (with_reducible exact ih3 _ _ _ _)
      | (with_reducible exact LeO.refl _)
      | (with_reducible exact LeO.none _)
      | (with_reducible refine LeO.ite ?_ ?_)
      | (with_reducible refine LeO.bind ?_ (fun _ => ?_))
      | exact ih0 _ _ _
      | exact ih1 _ _ _
      | exact ih2 _ _ _ _
      | exact ih3 _ _ _ _
      | exact LeO.none _
      | refine LeO.ite ?_ ?_
      | refine LeO.bind ?_ (fun _ => ?_)
    · intro y0 y1 y2 y3
      unfold grapnelref16_Exns.l1
      repeat' first
      | (with_reducible exact ih0 _ _ _)
      | (with_reducible exact ih1 _ _ _)
      | (with_reducible exact ih2 _ _ _ _)
      | (with_reducible exact ih3 _ _ _ _)
      | (with_reducible exact LeO.refl _)
      | (with_reducible exact LeO.none _)
      | (with_reducible refine LeO.ite ?_ ?_)
      | (with_reducible refine LeO.bind ?_ (fun _ => ?_))
      | exact ih0 _ _ _
      | exact ih1 _ _ _
      | exact ih2 _ _ _ _
      | exact ih3 _ _ _ _
      | exact LeO.none _
      | refine LeO.ite ?_ ?_
      | refine LeO.bind ?_ (fun _ => ?_)
theorem grapnelref16_Exns.mono : ∀ a0 k, LeO (grapnelref16_Exns.f k a0) (grapnelref16_Exns.f (k + 1) a0) := by
  intro a0 k
  obtain ⟨ih0, ih1, ih2, ih3⟩ := grapnelref16_Exns.mono_l k
  unfold grapnelref16_Exns.f
  repeat' first
      | (with_reducible exact ih0 _ _ _)
      | (with_reducible exact ih1 _ _ _)
      | (with_reducible exact ih2 _ _ _ _)
      | (with_reducible exact ih3 _ _ _ _)
      | (with_reducible exact LeO.refl _)
      | (with_reducible exact LeO.none _)
      | (with_reducible refine LeO.ite ?_ ?_)
      | (with_reducible refine LeO.bind ?_ (fun _ => ?_))
      | exact ih0 _ _ _
      | exact ih1 _ _ _
      | exact ih2 _ _ _ _
      | exact ih3 _ _ _ _
      | exact LeO.none _
      | refine LeO.ite ?_ ?_
      | refine LeO.bind ?_ (fun _ => ?_)
set_option maxHeartbeats 8000000 in
set_option maxRecDepth 100000 in
theorem grapnelref16_Exns.calls (k : Nat) (A0 : Option Addr) (c0 : Nat) (l0 : List (S45)) (r : Bool) (w : World) (hr0 : Kd.C k45 w A0 l0.length l0) (hc0 : l0.length ≤ c0) (h : grapnelref16_Exns.f k l0 = some r) :
    Calls Try.prog 23 #[.slice A0 l0.length c0] w fun e w' => e = .returned (.bool r) ∧ Below w.heap.size w w' := by
  have HR0 := Aside0.mk hr0
  have HC0 := Aside0.mk hc0
  clear hr0 hc0
  have HB := Aside0.mk (Below.refl w.heap.size w)
  have H : ((some (([(⟨#[77, 97, 116, 99, 104, 95, 102, 97, 105, 108, 117, 114, 101]⟩ : ByteArray), (⟨#[68, 105, 118, 105, 115, 105, 111, 110, 95, 98, 121, 95, 122, 101, 114, 111]⟩ : ByteArray), (⟨#[73, 110, 118, 97, 108, 105, 100, 95, 97, 114, 103, 117, 109, 101, 110, 116]⟩ : ByteArray), (⟨#[69, 110, 100, 95, 111, 102, 95, 102, 105, 108, 101]⟩ : ByteArray), (⟨#[78, 111, 116, 95, 102, 111, 117, 110, 100]⟩ : ByteArray), (⟨#[70, 97, 105, 108, 117, 114, 101]⟩ : ByteArray)] : List ByteArray) : List ByteArray)).bind fun y185 => (if (l0.length : Int) < 6 then (grapnelref16_Exns.j0 k l0 y185 true) else (grapnelref16_Exns.j0 k l0 y185 (decide ((l0.length : Int) > 200))))) = some r := h
  clear h
  obtain ⟨y185, hy185⟩ : ∃ y_ : List ByteArray, y_ = (([(⟨#[77, 97, 116, 99, 104, 95, 102, 97, 105, 108, 117, 114, 101]⟩ : ByteArray), (⟨#[68, 105, 118, 105, 115, 105, 111, 110, 95, 98, 121, 95, 122, 101, 114, 111]⟩ : ByteArray), (⟨#[73, 110, 118, 97, 108, 105, 100, 95, 97, 114, 103, 117, 109, 101, 110, 116]⟩ : ByteArray), (⟨#[69, 110, 100, 95, 111, 102, 95, 102, 105, 108, 101]⟩ : ByteArray), (⟨#[78, 111, 116, 95, 102, 111, 117, 110, 100]⟩ : ByteArray), (⟨#[70, 97, 105, 108, 117, 114, 101]⟩ : ByteArray)] : List ByteArray)) := ⟨_, rfl⟩
  replace H : (if (l0.length : Int) < 6 then (grapnelref16_Exns.j0 k l0 y185 true) else (grapnelref16_Exns.j0 k l0 y185 (decide ((l0.length : Int) > 200)))) = some r := by first | (rw [hy185]; with_reducible exact H) | (have H2_ := (Option.bind_some _ _).symm.trans H; rw [hy185]; with_reducible exact H2_) | (have H2_ := (Option.bind_some _ _).symm.trans H; with_reducible exact H2_) | with_reducible exact H | (rw [hy185]; exact H) | exact H
  have Ny185 := Aside0.mk hy185
  clear hy185
  have HC2 := Aside0.mk H
  clear H
  go_enter Try.func23, Try.ntmps23
  go_upto_region 2 with (first | ((with_reducible refine gate_dst (N := 6) rfl ?_); (try (refine gate_guard (by rfl) ?_; dsimp only)); refine Kd.R_lit Kd.string _ 9 ?hg (N := 6) ?hd (xs := ([(⟨#[77, 97, 116, 99, 104, 95, 102, 97, 105, 108, 117, 114, 101]⟩ : ByteArray), (⟨#[68, 105, 118, 105, 115, 105, 111, 110, 95, 98, 121, 95, 122, 101, 114, 111]⟩ : ByteArray), (⟨#[73, 110, 118, 97, 108, 105, 100, 95, 97, 114, 103, 117, 109, 101, 110, 116]⟩ : ByteArray), (⟨#[69, 110, 100, 95, 111, 102, 95, 102, 105, 108, 101]⟩ : ByteArray), (⟨#[78, 111, 116, 95, 102, 111, 117, 110, 100]⟩ : ByteArray), (⟨#[70, 97, 105, 108, 117, 114, 101]⟩ : ByteArray)] : List ByteArray)) (inner := [.string (⟨#[77, 97, 116, 99, 104, 95, 102, 97, 105, 108, 117, 114, 101]⟩ : ByteArray), .string (⟨#[68, 105, 118, 105, 115, 105, 111, 110, 95, 98, 121, 95, 122, 101, 114, 111]⟩ : ByteArray), .string (⟨#[73, 110, 118, 97, 108, 105, 100, 95, 97, 114, 103, 117, 109, 101, 110, 116]⟩ : ByteArray), .string (⟨#[69, 110, 100, 95, 111, 102, 95, 102, 105, 108, 101]⟩ : ByteArray), .string (⟨#[78, 111, 116, 95, 102, 111, 117, 110, 100]⟩ : ByteArray), .string (⟨#[70, 97, 105, 108, 117, 114, 101]⟩ : ByteArray)]) (ok := fun _ => True) (okp := fun _ => True) ?hr ?hp (fun _ hk => hk) trivial (Below.refl _ _) (Nat.le_refl _) (by simp) ?_; (case hd => rfl); (case hg => rfl); (case hr => first | (go_simp; done) | (go_simp; rfl)); (case hp => exact (Reps.one (show Kd.M Kd.string _ _ _ (⟨#[77, 97, 116, 99, 104, 95, 102, 97, 105, 108, 117, 114, 101]⟩ : ByteArray) [.string (⟨#[77, 97, 116, 99, 104, 95, 102, 97, 105, 108, 117, 114, 101]⟩ : ByteArray)] from rfl) (Reps.one (show Kd.M Kd.string _ _ _ (⟨#[68, 105, 118, 105, 115, 105, 111, 110, 95, 98, 121, 95, 122, 101, 114, 111]⟩ : ByteArray) [.string (⟨#[68, 105, 118, 105, 115, 105, 111, 110, 95, 98, 121, 95, 122, 101, 114, 111]⟩ : ByteArray)] from rfl) (Reps.one (show Kd.M Kd.string _ _ _ (⟨#[73, 110, 118, 97, 108, 105, 100, 95, 97, 114, 103, 117, 109, 101, 110, 116]⟩ : ByteArray) [.string (⟨#[73, 110, 118, 97, 108, 105, 100, 95, 97, 114, 103, 117, 109, 101, 110, 116]⟩ : ByteArray)] from rfl) (Reps.one (show Kd.M Kd.string _ _ _ (⟨#[69, 110, 100, 95, 111, 102, 95, 102, 105, 108, 101]⟩ : ByteArray) [.string (⟨#[69, 110, 100, 95, 111, 102, 95, 102, 105, 108, 101]⟩ : ByteArray)] from rfl) (Reps.one (show Kd.M Kd.string _ _ _ (⟨#[78, 111, 116, 95, 102, 111, 117, 110, 100]⟩ : ByteArray) [.string (⟨#[78, 111, 116, 95, 102, 111, 117, 110, 100]⟩ : ByteArray)] from rfl) (Reps.one (show Kd.M Kd.string _ _ _ (⟨#[70, 97, 105, 108, 117, 114, 101]⟩ : ByteArray) [.string (⟨#[70, 97, 105, 108, 117, 114, 101]⟩ : ByteArray)] from rfl) (Reps.none _ _)))))))); intro v186 w3 ho4 hb hg_ hnew_; clear hg_ hnew_; (first | rw [← Ny185.out] at ho4 | (simp only [Int.reduceToNat] at ho4; rw [← Ny185.out] at ho4)); have n0_ := Aside0.mk (Kd.R_lower ho4 (below_size (by repeat (first | (with_reducible first | exact HB.out | apply below_alloc | apply pw_below_drewN | apply below_drew1) | exact HB.out)))); have n1_ := Aside0.mk (below_step (by repeat (first | (with_reducible first | exact HB.out | apply below_alloc | apply pw_below_drewN | apply below_drew1) | exact HB.out)) hb); clear HB; have HO187 := n0_; have HB := n1_; clear n0_ n1_; clear hb ho4))
  repeat (go_quiet (first | ((with_reducible refine gate_dst (N := 6) rfl ?_); (try (refine gate_guard (by rfl) ?_; dsimp only)); refine Kd.R_lit Kd.string _ 9 ?hg (N := 6) ?hd (xs := ([(⟨#[77, 97, 116, 99, 104, 95, 102, 97, 105, 108, 117, 114, 101]⟩ : ByteArray), (⟨#[68, 105, 118, 105, 115, 105, 111, 110, 95, 98, 121, 95, 122, 101, 114, 111]⟩ : ByteArray), (⟨#[73, 110, 118, 97, 108, 105, 100, 95, 97, 114, 103, 117, 109, 101, 110, 116]⟩ : ByteArray), (⟨#[69, 110, 100, 95, 111, 102, 95, 102, 105, 108, 101]⟩ : ByteArray), (⟨#[78, 111, 116, 95, 102, 111, 117, 110, 100]⟩ : ByteArray), (⟨#[70, 97, 105, 108, 117, 114, 101]⟩ : ByteArray)] : List ByteArray)) (inner := [.string (⟨#[77, 97, 116, 99, 104, 95, 102, 97, 105, 108, 117, 114, 101]⟩ : ByteArray), .string (⟨#[68, 105, 118, 105, 115, 105, 111, 110, 95, 98, 121, 95, 122, 101, 114, 111]⟩ : ByteArray), .string (⟨#[73, 110, 118, 97, 108, 105, 100, 95, 97, 114, 103, 117, 109, 101, 110, 116]⟩ : ByteArray), .string (⟨#[69, 110, 100, 95, 111, 102, 95, 102, 105, 108, 101]⟩ : ByteArray), .string (⟨#[78, 111, 116, 95, 102, 111, 117, 110, 100]⟩ : ByteArray), .string (⟨#[70, 97, 105, 108, 117, 114, 101]⟩ : ByteArray)]) (ok := fun _ => True) (okp := fun _ => True) ?hr ?hp (fun _ hk => hk) trivial (Below.refl _ _) (Nat.le_refl _) (by simp) ?_; (case hd => rfl); (case hg => rfl); (case hr => first | (go_simp; done) | (go_simp; rfl)); (case hp => exact (Reps.one (show Kd.M Kd.string _ _ _ (⟨#[77, 97, 116, 99, 104, 95, 102, 97, 105, 108, 117, 114, 101]⟩ : ByteArray) [.string (⟨#[77, 97, 116, 99, 104, 95, 102, 97, 105, 108, 117, 114, 101]⟩ : ByteArray)] from rfl) (Reps.one (show Kd.M Kd.string _ _ _ (⟨#[68, 105, 118, 105, 115, 105, 111, 110, 95, 98, 121, 95, 122, 101, 114, 111]⟩ : ByteArray) [.string (⟨#[68, 105, 118, 105, 115, 105, 111, 110, 95, 98, 121, 95, 122, 101, 114, 111]⟩ : ByteArray)] from rfl) (Reps.one (show Kd.M Kd.string _ _ _ (⟨#[73, 110, 118, 97, 108, 105, 100, 95, 97, 114, 103, 117, 109, 101, 110, 116]⟩ : ByteArray) [.string (⟨#[73, 110, 118, 97, 108, 105, 100, 95, 97, 114, 103, 117, 109, 101, 110, 116]⟩ : ByteArray)] from rfl) (Reps.one (show Kd.M Kd.string _ _ _ (⟨#[69, 110, 100, 95, 111, 102, 95, 102, 105, 108, 101]⟩ : ByteArray) [.string (⟨#[69, 110, 100, 95, 111, 102, 95, 102, 105, 108, 101]⟩ : ByteArray)] from rfl) (Reps.one (show Kd.M Kd.string _ _ _ (⟨#[78, 111, 116, 95, 102, 111, 117, 110, 100]⟩ : ByteArray) [.string (⟨#[78, 111, 116, 95, 102, 111, 117, 110, 100]⟩ : ByteArray)] from rfl) (Reps.one (show Kd.M Kd.string _ _ _ (⟨#[70, 97, 105, 108, 117, 114, 101]⟩ : ByteArray) [.string (⟨#[70, 97, 105, 108, 117, 114, 101]⟩ : ByteArray)] from rfl) (Reps.none _ _)))))))); intro v186 w3 ho4 hb hg_ hnew_; clear hg_ hnew_; (first | rw [← Ny185.out] at ho4 | (simp only [Int.reduceToNat] at ho4; rw [← Ny185.out] at ho4)); have n0_ := Aside0.mk (Kd.R_lower ho4 (below_size (by repeat (first | (with_reducible first | exact HB.out | apply below_alloc | apply pw_below_drewN | apply below_drew1) | exact HB.out)))); have n1_ := Aside0.mk (below_step (by repeat (first | (with_reducible first | exact HB.out | apply below_alloc | apply pw_below_drewN | apply below_drew1) | exact HB.out)) hb); clear HB; have HO187 := n0_; have HB := n1_; clear n0_ n1_; clear hb ho4)); go_upto_region 2 with (first | ((with_reducible refine gate_dst (N := 6) rfl ?_); (try (refine gate_guard (by rfl) ?_; dsimp only)); refine Kd.R_lit Kd.string _ 9 ?hg (N := 6) ?hd (xs := ([(⟨#[77, 97, 116, 99, 104, 95, 102, 97, 105, 108, 117, 114, 101]⟩ : ByteArray), (⟨#[68, 105, 118, 105, 115, 105, 111, 110, 95, 98, 121, 95, 122, 101, 114, 111]⟩ : ByteArray), (⟨#[73, 110, 118, 97, 108, 105, 100, 95, 97, 114, 103, 117, 109, 101, 110, 116]⟩ : ByteArray), (⟨#[69, 110, 100, 95, 111, 102, 95, 102, 105, 108, 101]⟩ : ByteArray), (⟨#[78, 111, 116, 95, 102, 111, 117, 110, 100]⟩ : ByteArray), (⟨#[70, 97, 105, 108, 117, 114, 101]⟩ : ByteArray)] : List ByteArray)) (inner := [.string (⟨#[77, 97, 116, 99, 104, 95, 102, 97, 105, 108, 117, 114, 101]⟩ : ByteArray), .string (⟨#[68, 105, 118, 105, 115, 105, 111, 110, 95, 98, 121, 95, 122, 101, 114, 111]⟩ : ByteArray), .string (⟨#[73, 110, 118, 97, 108, 105, 100, 95, 97, 114, 103, 117, 109, 101, 110, 116]⟩ : ByteArray), .string (⟨#[69, 110, 100, 95, 111, 102, 95, 102, 105, 108, 101]⟩ : ByteArray), .string (⟨#[78, 111, 116, 95, 102, 111, 117, 110, 100]⟩ : ByteArray), .string (⟨#[70, 97, 105, 108, 117, 114, 101]⟩ : ByteArray)]) (ok := fun _ => True) (okp := fun _ => True) ?hr ?hp (fun _ hk => hk) trivial (Below.refl _ _) (Nat.le_refl _) (by simp) ?_; (case hd => rfl); (case hg => rfl); (case hr => first | (go_simp; done) | (go_simp; rfl)); (case hp => exact (Reps.one (show Kd.M Kd.string _ _ _ (⟨#[77, 97, 116, 99, 104, 95, 102, 97, 105, 108, 117, 114, 101]⟩ : ByteArray) [.string (⟨#[77, 97, 116, 99, 104, 95, 102, 97, 105, 108, 117, 114, 101]⟩ : ByteArray)] from rfl) (Reps.one (show Kd.M Kd.string _ _ _ (⟨#[68, 105, 118, 105, 115, 105, 111, 110, 95, 98, 121, 95, 122, 101, 114, 111]⟩ : ByteArray) [.string (⟨#[68, 105, 118, 105, 115, 105, 111, 110, 95, 98, 121, 95, 122, 101, 114, 111]⟩ : ByteArray)] from rfl) (Reps.one (show Kd.M Kd.string _ _ _ (⟨#[73, 110, 118, 97, 108, 105, 100, 95, 97, 114, 103, 117, 109, 101, 110, 116]⟩ : ByteArray) [.string (⟨#[73, 110, 118, 97, 108, 105, 100, 95, 97, 114, 103, 117, 109, 101, 110, 116]⟩ : ByteArray)] from rfl) (Reps.one (show Kd.M Kd.string _ _ _ (⟨#[69, 110, 100, 95, 111, 102, 95, 102, 105, 108, 101]⟩ : ByteArray) [.string (⟨#[69, 110, 100, 95, 111, 102, 95, 102, 105, 108, 101]⟩ : ByteArray)] from rfl) (Reps.one (show Kd.M Kd.string _ _ _ (⟨#[78, 111, 116, 95, 102, 111, 117, 110, 100]⟩ : ByteArray) [.string (⟨#[78, 111, 116, 95, 102, 111, 117, 110, 100]⟩ : ByteArray)] from rfl) (Reps.one (show Kd.M Kd.string _ _ _ (⟨#[70, 97, 105, 108, 117, 114, 101]⟩ : ByteArray) [.string (⟨#[70, 97, 105, 108, 117, 114, 101]⟩ : ByteArray)] from rfl) (Reps.none _ _)))))))); intro v186 w3 ho4 hb hg_ hnew_; clear hg_ hnew_; (first | rw [← Ny185.out] at ho4 | (simp only [Int.reduceToNat] at ho4; rw [← Ny185.out] at ho4)); have n0_ := Aside0.mk (Kd.R_lower ho4 (below_size (by repeat (first | (with_reducible first | exact HB.out | apply below_alloc | apply pw_below_drewN | apply below_drew1) | exact HB.out)))); have n1_ := Aside0.mk (below_step (by repeat (first | (with_reducible first | exact HB.out | apply below_alloc | apply pw_below_drewN | apply below_drew1) | exact HB.out)) hb); clear HB; have HO187 := n0_; have HB := n1_; clear n0_ n1_; clear hb ho4)))
  (try simp only [Act.put, List.setIfInBounds_toArray, List.set_cons_zero, List.set_cons_succ])
  go_cut [14] (fun v14 wc => ∃ (kq : Nat) (x14_1 : Bool), v14 = .bool x14_1 ∧ Aside0 (grapnelref16_Exns.j0 kq l0 y185 x14_1 = some r) ∧ Aside0 (kq ≤ k) ∧ Aside0 (Kd.R Kd.string 9 wc w.heap.size (fun _ => True) v186 y185) ∧ Aside0 (Below w.heap.size w wc))
  case first =>
    have H := HC2.out
    clear HC2
    by_cases c5 : (l0.length : Int) < 6
    · rw [if_pos c5] at H
      have c5b0 : decide ((l0.length : Int) < 6) = true := decide_eq_true c5
      have c5b1 : decide (l0.length < 6) = true := decide_eq_true (by omega)
      clear c5
      (first | rw [c5b0] | (simp only [i64_w, i32_w]; rw [c5b0]) | skip)
      have H' := Aside0.mk H
      clear H
      go_wp2
      repeat (go_quiet (fail); try go_wp2)
      go_meet
      case rel => exact ⟨_, (true), (by first | rfl | (simp; done) | (simp [*]; done)), H', ⟨by first | omega | exact Nat.le_refl _⟩, ⟨by (with_reducible repeat (first | apply Kd.R_alloc | apply Kd.R_drewN | apply Kd.R_drew)); exact HO187.out⟩, ⟨by repeat (first | (with_reducible first | exact HB.out | apply below_alloc | apply pw_below_drewN | apply below_drew1) | exact HB.out)⟩⟩
    · rw [if_neg c5] at H
      have c5b0 : decide ((l0.length : Int) < 6) = false := decide_eq_false c5
      have c5b1 : decide (l0.length < 6) = false := decide_eq_false (by omega)
      clear c5
      (first | rw [c5b0] | (simp only [i64_w, i32_w]; rw [c5b0]) | skip)
      have H' := Aside0.mk H
      clear H
      go_wp2
      repeat (go_quiet (fail); try go_wp2)
      go_meet
      case rel => exact ⟨_, (decide ((l0.length : Int) > 200)), (by first | rfl | (simp; done) | (simp [*]; done)), H', ⟨by first | omega | exact Nat.le_refl _⟩, ⟨by (with_reducible repeat (first | apply Kd.R_alloc | apply Kd.R_drewN | apply Kd.R_drew)); exact HO187.out⟩, ⟨by repeat (first | (with_reducible first | exact HB.out | apply below_alloc | apply pw_below_drewN | apply below_drew1) | exact HB.out)⟩⟩
  case rest =>
    clear HC2
    try clear c2
    try clear p2
    try clear c5
    try clear c5b0
    try clear c5b1
    obtain ⟨kq, x14_1, rfl, HA, HJ1, HO_3, HB⟩ := hcut
    cases kq with
    | zero => exact absurd HA.out (by simp [grapnelref16_Exns.j0])
    | succ kj1 =>
      have H := HA.out
      clear HA
      simp only [grapnelref16_Exns.j0] at H
      by_cases c6 : x14_1 = true
      · subst c6
        have H1 : (some false) = some r := by rw [if_pos rfl] at H; exact H
        clear H
        have H := H1
        clear H1
        obtain rfl := Option.some.inj H
        go_wp2
        repeat (go_quiet (fail); try go_wp2)
        go_ret
        exact ⟨by first | rfl | (simp [errW_none, errW_some] <;> rfl) | (simp [*, errW_none, errW_some] <;> rfl), by repeat (first | (with_reducible first | exact HB.out | apply below_alloc | apply pw_below_drewN | apply below_drew1) | exact HB.out)⟩
      · replace c6 := Bool.eq_false_iff.mpr c6
        subst c6
        have H1 : (grapnelref16_Exns.l0 kj1 l0 y185 0) = some r := by rw [if_neg (show ¬ (false = true) by decide)] at H; exact H
        clear H
        have H := H1
        clear H1
        have H' := Aside0.mk H
        clear H
        go_wp2
        repeat (go_quiet (fail); try go_wp2)
        go_loopg [4] kj1 (fun kq v4 w' => ∃ (x4_2 : Int), v4 = .int .i64 x4_2 ∧ Aside0 (grapnelref16_Exns.l0 kq l0 y185 x4_2 = some r) ∧ Aside0 (kq ≤ kj1) ∧ Aside0 (Kd.R Kd.string 9 w' w.heap.size (fun _ => True) v186 y185) ∧ Aside0 (Below w.heap.size w w'))
        case atStart => exact ⟨(0), (by first | rfl | (simp; done) | (simp [*]; done)), H', ⟨Nat.le_refl _⟩, ⟨by (with_reducible repeat (first | apply Kd.R_alloc | apply Kd.R_drewN | apply Kd.R_drew)); exact HO_3.out⟩, ⟨by repeat (first | (with_reducible first | exact HB.out | apply below_alloc | apply pw_below_drewN | apply below_drew1) | exact HB.out)⟩⟩
        case round =>
          clear H'
          try clear c2
          try clear p2
          try clear c5
          try clear c5b0
          try clear c5b1
          try clear c6
          try clear p2
          obtain ⟨x4_2, rfl, HA, HK2, HO_3, HB⟩ := hrel
          cases gk with
          | zero => exact absurd HA.out (by simp [grapnelref16_Exns.l0])
          | succ k2 =>
            have H := HA.out
            clear HA
            simp only [grapnelref16_Exns.l0] at H
            by_cases c7 : x4_2 < (l0.length : Int)
            · rw [if_pos c7] at H
              have c7b0 : decide (x4_2 < (l0.length : Int)) = true := decide_eq_true c7
              clear c7
              have HC8 := Aside0.mk H
              clear H
              go_upto_region 7 with (fail)
              repeat (go_quiet (fail); go_upto_region 7 with (fail))
              go_cut [62] (fun v62 wc => ∃ (kq : Nat) (x62_7 : Bool), v62 = .bool x62_7 ∧ Aside0 (grapnelref16_Exns.j2 kq l0 y185 x4_2 x62_7 = some r) ∧ Aside0 (kq ≤ k2) ∧ Aside0 (Kd.R Kd.string 9 wc w.heap.size (fun _ => True) v186 y185) ∧ Aside0 (Below w.heap.size w wc))
              case first =>
                have H := HC8.out
                clear HC8
                by_cases c9 : 0 ≤ x4_2
                · rw [if_pos c9] at H
                  have c9b0 : decide (0 ≤ x4_2) = true := decide_eq_true c9
                  clear c9
                  (first | rw [c9b0] | (simp only [i64_w, i32_w]; rw [c9b0]) | skip)
                  by_cases c10 : (((rd_T45 l0 x4_2).f0).size : Int) = 0
                  · rw [if_pos c10] at H
                    have c10b0 : ((((rd_T45 l0 x4_2).f0).size : Int) == 0) = true := beq_iff_eq.mpr c10
                    have c10b1 : ((((rd_T45 l0 x4_2).f0).size : Int) != 0) = false := bne_eq_false_iff_eq.mpr c10
                    clear c10
                    have H' := Aside0.mk H
                    clear H
                    have p188 : 0 ≤ (x4_2 : Int) := of_decide_eq_true (by first | (with_reducible assumption) | assumption)
                    have q188 : x4_2 < (l0.length : Int) := of_decide_eq_true (by first | (with_reducible assumption) | assumption)
                    obtain ⟨ad188, e188, hx188_0, hx188_1⟩ := at_T45 HR0.out x4_2 p188 q188
                    cases e188
                    replace hx188_0 := (HB.out.cell (World.block_lt_of_cell? w _ hx188_0)).trans hx188_0
                    replace hx188_1 := (HB.out.cell (World.block_lt_of_cell? w _ hx188_1)).trans hx188_1
                    replace p188 := eq_true p188
                    replace q188 := eq_true q188
                    go_wp2
                    repeat (go_quiet (fail); try go_wp2)
                    go_meet
                    case rel => exact ⟨_, (true), (by first | rfl | (simp; done) | (simp [*]; done)), H', ⟨by have := HJ1.out; have := HK2.out; first | omega | exact Nat.le_refl _⟩, ⟨by (with_reducible repeat (first | apply Kd.R_alloc | apply Kd.R_drewN | apply Kd.R_drew)); exact HO_3.out⟩, ⟨by repeat (first | (with_reducible first | exact HB.out | apply below_alloc | apply pw_below_drewN | apply below_drew1) | exact HB.out)⟩⟩
                  · rw [if_neg c10] at H
                    have c10b0 : ((((rd_T45 l0 x4_2).f0).size : Int) == 0) = false := beq_eq_false_iff_ne.mpr c10
                    have c10b1 : ((((rd_T45 l0 x4_2).f0).size : Int) != 0) = true := bne_iff_ne.mpr c10
                    by_cases c11 : (((rd_T45 l0 x4_2).f0).size : Int) > 4096
                    · rw [if_pos c11] at H
                      have c11b0 : decide (4096 < (((rd_T45 l0 x4_2).f0).size : Int)) = true := decide_eq_true c11
                      have c11b1 : decide (4096 < ((rd_T45 l0 x4_2).f0).size) = true := decide_eq_true (by omega)
                      clear c11
                      have H' := Aside0.mk H
                      clear H
                      have p188 : 0 ≤ (x4_2 : Int) := of_decide_eq_true (by first | (with_reducible assumption) | assumption)
                      have q188 : x4_2 < (l0.length : Int) := of_decide_eq_true (by first | (with_reducible assumption) | assumption)
                      obtain ⟨ad188, e188, hx188_0, hx188_1⟩ := at_T45 HR0.out x4_2 p188 q188
                      cases e188
                      replace hx188_0 := (HB.out.cell (World.block_lt_of_cell? w _ hx188_0)).trans hx188_0
                      replace hx188_1 := (HB.out.cell (World.block_lt_of_cell? w _ hx188_1)).trans hx188_1
                      replace p188 := eq_true p188
                      replace q188 := eq_true q188
                      have p189 : 0 ≤ (x4_2 : Int) := of_decide_eq_true (by first | (with_reducible assumption) | assumption)
                      have q189 : x4_2 < (l0.length : Int) := of_decide_eq_true (by first | (with_reducible assumption) | assumption)
                      obtain ⟨ad189, e189, hx189_0, hx189_1⟩ := at_T45 HR0.out x4_2 p189 q189
                      obtain rfl : ad188 = ad189 := (by injection e189)
                      replace hx189_0 := (HB.out.cell (World.block_lt_of_cell? w _ hx189_0)).trans hx189_0
                      replace hx189_1 := (HB.out.cell (World.block_lt_of_cell? w _ hx189_1)).trans hx189_1
                      replace p189 := eq_true p189
                      replace q189 := eq_true q189
                      go_wp2
                      repeat (go_quiet (fail); try go_wp2)
                      go_meet
                      case rel => exact ⟨_, (true), (by first | rfl | (simp; done) | (simp [*]; done)), H', ⟨by have := HJ1.out; have := HK2.out; first | omega | exact Nat.le_refl _⟩, ⟨by (with_reducible repeat (first | apply Kd.R_alloc | apply Kd.R_drewN | apply Kd.R_drew)); exact HO_3.out⟩, ⟨by repeat (first | (with_reducible first | exact HB.out | apply below_alloc | apply pw_below_drewN | apply below_drew1) | exact HB.out)⟩⟩
                    · rw [if_neg c11] at H
                      have c11b0 : decide (4096 < (((rd_T45 l0 x4_2).f0).size : Int)) = false := decide_eq_false c11
                      have c11b1 : decide (4096 < ((rd_T45 l0 x4_2).f0).size) = false := decide_eq_false (by omega)
                      clear c11
                      by_cases c12 : x4_2 < 6
                      · rw [if_pos c12] at H
                        have c12b0 : decide (x4_2 < 6) = true := decide_eq_true c12
                        clear c12
                        by_cases c13 : x4_2 < (y185.length : Int)
                        · rw [if_pos c13] at H
                          have c13b0 : decide (x4_2 < (y185.length : Int)) = true := decide_eq_true c13
                          clear c13
                          by_cases c14 : ((rd_T45 l0 x4_2).f0).toList = (rdOf ByteArray.empty y185 x4_2).toList
                          · rw [if_pos c14] at H
                            have c14b0 : (((rd_T45 l0 x4_2).f0).toList == (rdOf ByteArray.empty y185 x4_2).toList) = true := beq_iff_eq.mpr c14
                            have c14b1 : (((rd_T45 l0 x4_2).f0).toList != (rdOf ByteArray.empty y185 x4_2).toList) = false := bne_eq_false_iff_eq.mpr c14
                            clear c14
                            have H' := Aside0.mk H
                            clear H
                            have p188 : 0 ≤ (x4_2 : Int) := of_decide_eq_true (by first | (with_reducible assumption) | assumption)
                            have q188 : x4_2 < (l0.length : Int) := of_decide_eq_true (by first | (with_reducible assumption) | assumption)
                            obtain ⟨ad188, e188, hx188_0, hx188_1⟩ := at_T45 HR0.out x4_2 p188 q188
                            cases e188
                            replace hx188_0 := (HB.out.cell (World.block_lt_of_cell? w _ hx188_0)).trans hx188_0
                            replace hx188_1 := (HB.out.cell (World.block_lt_of_cell? w _ hx188_1)).trans hx188_1
                            replace p188 := eq_true p188
                            replace q188 := eq_true q188
                            have p189 : 0 ≤ (x4_2 : Int) := of_decide_eq_true (by first | (with_reducible assumption) | assumption)
                            have q189 : x4_2 < (l0.length : Int) := of_decide_eq_true (by first | (with_reducible assumption) | assumption)
                            obtain ⟨ad189, e189, hx189_0, hx189_1⟩ := at_T45 HR0.out x4_2 p189 q189
                            obtain rfl : ad188 = ad189 := (by injection e189)
                            replace hx189_0 := (HB.out.cell (World.block_lt_of_cell? w _ hx189_0)).trans hx189_0
                            replace hx189_1 := (HB.out.cell (World.block_lt_of_cell? w _ hx189_1)).trans hx189_1
                            replace p189 := eq_true p189
                            replace q189 := eq_true q189
                            have p190 : 0 ≤ (x4_2 : Int) := of_decide_eq_true (by first | (with_reducible assumption) | assumption)
                            have q190 : x4_2 < (l0.length : Int) := of_decide_eq_true (by first | (with_reducible assumption) | assumption)
                            obtain ⟨ad190, e190, hx190_0, hx190_1⟩ := at_T45 HR0.out x4_2 p190 q190
                            obtain rfl : ad188 = ad190 := (by injection e190)
                            replace hx190_0 := (HB.out.cell (World.block_lt_of_cell? w _ hx190_0)).trans hx190_0
                            replace hx190_1 := (HB.out.cell (World.block_lt_of_cell? w _ hx190_1)).trans hx190_1
                            replace p190 := eq_true p190
                            replace q190 := eq_true q190
                            obtain ⟨Ao15, co15, eo15⟩ := Kd.R_slice HO_3.out
                            subst eo15
                            have p191 : 0 ≤ (x4_2 : Int) := of_decide_eq_true (by first | (with_reducible assumption) | assumption)
                            have q191 : x4_2 < (y185.length : Int) := of_decide_eq_true (by first | (with_reducible assumption) | assumption)
                            obtain ⟨ad191, e191, hx191_0⟩ := Kd.at_string (Kd.R_reads' HO_3.out).2.2 x4_2 p191 q191
                            cases e191
                            replace p191 := eq_true p191
                            replace q191 := eq_true q191
                            have p192 : 0 ≤ (x4_2 : Int) := of_decide_eq_true (by first | (with_reducible assumption) | assumption)
                            have q192 : x4_2 < (l0.length : Int) := of_decide_eq_true (by first | (with_reducible assumption) | assumption)
                            obtain ⟨ad192, e192, hx192_0, hx192_1⟩ := at_T45 HR0.out x4_2 p192 q192
                            obtain rfl : ad188 = ad192 := (by injection e192)
                            replace hx192_0 := (HB.out.cell (World.block_lt_of_cell? w _ hx192_0)).trans hx192_0
                            replace hx192_1 := (HB.out.cell (World.block_lt_of_cell? w _ hx192_1)).trans hx192_1
                            replace p192 := eq_true p192
                            replace q192 := eq_true q192
                            go_wp2
                            repeat (go_quiet (fail); try go_wp2)
                            go_meet
                            case rel => exact ⟨_, ((((rd_T45 l0 x4_2).f1) != (x4_2 == 5))), (by first | rfl | (simp; done) | (simp [*]; done)), H', ⟨by have := HJ1.out; have := HK2.out; first | omega | exact Nat.le_refl _⟩, ⟨by (with_reducible repeat (first | apply Kd.R_alloc | apply Kd.R_drewN | apply Kd.R_drew)); exact HO_3.out⟩, ⟨by repeat (first | (with_reducible first | exact HB.out | apply below_alloc | apply pw_below_drewN | apply below_drew1) | exact HB.out)⟩⟩
                          · rw [if_neg c14] at H
                            have c14b0 : (((rd_T45 l0 x4_2).f0).toList == (rdOf ByteArray.empty y185 x4_2).toList) = false := beq_eq_false_iff_ne.mpr c14
                            have c14b1 : (((rd_T45 l0 x4_2).f0).toList != (rdOf ByteArray.empty y185 x4_2).toList) = true := bne_iff_ne.mpr c14
                            have H' := Aside0.mk H
                            clear H
                            have p188 : 0 ≤ (x4_2 : Int) := of_decide_eq_true (by first | (with_reducible assumption) | assumption)
                            have q188 : x4_2 < (l0.length : Int) := of_decide_eq_true (by first | (with_reducible assumption) | assumption)
                            obtain ⟨ad188, e188, hx188_0, hx188_1⟩ := at_T45 HR0.out x4_2 p188 q188
                            cases e188
                            replace hx188_0 := (HB.out.cell (World.block_lt_of_cell? w _ hx188_0)).trans hx188_0
                            replace hx188_1 := (HB.out.cell (World.block_lt_of_cell? w _ hx188_1)).trans hx188_1
                            replace p188 := eq_true p188
                            replace q188 := eq_true q188
                            have p189 : 0 ≤ (x4_2 : Int) := of_decide_eq_true (by first | (with_reducible assumption) | assumption)
                            have q189 : x4_2 < (l0.length : Int) := of_decide_eq_true (by first | (with_reducible assumption) | assumption)
                            obtain ⟨ad189, e189, hx189_0, hx189_1⟩ := at_T45 HR0.out x4_2 p189 q189
                            obtain rfl : ad188 = ad189 := (by injection e189)
                            replace hx189_0 := (HB.out.cell (World.block_lt_of_cell? w _ hx189_0)).trans hx189_0
                            replace hx189_1 := (HB.out.cell (World.block_lt_of_cell? w _ hx189_1)).trans hx189_1
                            replace p189 := eq_true p189
                            replace q189 := eq_true q189
                            have p190 : 0 ≤ (x4_2 : Int) := of_decide_eq_true (by first | (with_reducible assumption) | assumption)
                            have q190 : x4_2 < (l0.length : Int) := of_decide_eq_true (by first | (with_reducible assumption) | assumption)
                            obtain ⟨ad190, e190, hx190_0, hx190_1⟩ := at_T45 HR0.out x4_2 p190 q190
                            obtain rfl : ad188 = ad190 := (by injection e190)
                            replace hx190_0 := (HB.out.cell (World.block_lt_of_cell? w _ hx190_0)).trans hx190_0
                            replace hx190_1 := (HB.out.cell (World.block_lt_of_cell? w _ hx190_1)).trans hx190_1
                            replace p190 := eq_true p190
                            replace q190 := eq_true q190
                            obtain ⟨Ao16, co16, eo16⟩ := Kd.R_slice HO_3.out
                            subst eo16
                            have p191 : 0 ≤ (x4_2 : Int) := of_decide_eq_true (by first | (with_reducible assumption) | assumption)
                            have q191 : x4_2 < (y185.length : Int) := of_decide_eq_true (by first | (with_reducible assumption) | assumption)
                            obtain ⟨ad191, e191, hx191_0⟩ := Kd.at_string (Kd.R_reads' HO_3.out).2.2 x4_2 p191 q191
                            cases e191
                            replace p191 := eq_true p191
                            replace q191 := eq_true q191
                            go_wp2
                            repeat (go_quiet (fail); try go_wp2)
                            go_meet
                            case rel => exact ⟨_, (true), (by first | rfl | (simp; done) | (simp [*]; done)), H', ⟨by have := HJ1.out; have := HK2.out; first | omega | exact Nat.le_refl _⟩, ⟨by (with_reducible repeat (first | apply Kd.R_alloc | apply Kd.R_drewN | apply Kd.R_drew)); exact HO_3.out⟩, ⟨by repeat (first | (with_reducible first | exact HB.out | apply below_alloc | apply pw_below_drewN | apply below_drew1) | exact HB.out)⟩⟩
                        · rw [if_neg c13] at H
                          exact absurd H (by simp)
                      · rw [if_neg c12] at H
                        have c12b0 : decide (x4_2 < 6) = false := decide_eq_false c12
                        clear c12
                        have H' := Aside0.mk H
                        clear H
                        have p188 : 0 ≤ (x4_2 : Int) := of_decide_eq_true (by first | (with_reducible assumption) | assumption)
                        have q188 : x4_2 < (l0.length : Int) := of_decide_eq_true (by first | (with_reducible assumption) | assumption)
                        obtain ⟨ad188, e188, hx188_0, hx188_1⟩ := at_T45 HR0.out x4_2 p188 q188
                        cases e188
                        replace hx188_0 := (HB.out.cell (World.block_lt_of_cell? w _ hx188_0)).trans hx188_0
                        replace hx188_1 := (HB.out.cell (World.block_lt_of_cell? w _ hx188_1)).trans hx188_1
                        replace p188 := eq_true p188
                        replace q188 := eq_true q188
                        have p189 : 0 ≤ (x4_2 : Int) := of_decide_eq_true (by first | (with_reducible assumption) | assumption)
                        have q189 : x4_2 < (l0.length : Int) := of_decide_eq_true (by first | (with_reducible assumption) | assumption)
                        obtain ⟨ad189, e189, hx189_0, hx189_1⟩ := at_T45 HR0.out x4_2 p189 q189
                        obtain rfl : ad188 = ad189 := (by injection e189)
                        replace hx189_0 := (HB.out.cell (World.block_lt_of_cell? w _ hx189_0)).trans hx189_0
                        replace hx189_1 := (HB.out.cell (World.block_lt_of_cell? w _ hx189_1)).trans hx189_1
                        replace p189 := eq_true p189
                        replace q189 := eq_true q189
                        go_wp2
                        repeat (go_quiet (fail); try go_wp2)
                        go_meet
                        case rel => exact ⟨_, (false), (by first | rfl | (simp; done) | (simp [*]; done)), H', ⟨by have := HJ1.out; have := HK2.out; first | omega | exact Nat.le_refl _⟩, ⟨by (with_reducible repeat (first | apply Kd.R_alloc | apply Kd.R_drewN | apply Kd.R_drew)); exact HO_3.out⟩, ⟨by repeat (first | (with_reducible first | exact HB.out | apply below_alloc | apply pw_below_drewN | apply below_drew1) | exact HB.out)⟩⟩
                · rw [if_neg c9] at H
                  exact absurd H (by simp)
              case rest =>
                clear HC8
                try clear c1
                try clear p1
                try clear q1
                try clear hx1
                try clear c2
                try clear p2
                try clear c5
                try clear c5b0
                try clear c5b1
                try clear c6
                try clear c7
                try clear c7b0
                try clear c9
                try clear c9b0
                try clear c10
                try clear c10b0
                try clear c10b1
                try clear c11
                try clear c11b0
                try clear c11b1
                try clear c12
                try clear c12b0
                try clear c13
                try clear c13b0
                try clear c14
                try clear c14b0
                try clear c14b1
                try clear hx188_0
                try clear hx188_1
                try clear hx189_0
                try clear hx189_1
                try clear hx190_0
                try clear hx190_1
                try clear hx191_0
                try clear hx192_0
                try clear hx192_1
                try clear p188
                try clear p189
                try clear p190
                try clear p191
                try clear p192
                try clear p2
                try clear q188
                try clear q189
                try clear q190
                try clear q191
                try clear q192
                obtain ⟨kq, x62_7, rfl, HA, HJ7, HO_3, HB⟩ := hcut
                cases kq with
                | zero => exact absurd HA.out (by simp [grapnelref16_Exns.j2])
                | succ kj7 =>
                  have H := HA.out
                  clear HA
                  simp only [grapnelref16_Exns.j2] at H
                  by_cases c17 : x62_7 = true
                  · subst c17
                    have H1 : (some false) = some r := by rw [if_pos rfl] at H; exact H
                    clear H
                    have H := H1
                    clear H1
                    obtain rfl := Option.some.inj H
                    go_wp2
                    repeat (go_quiet (fail); try go_wp2)
                    go_ret
                    exact ⟨by first | rfl | (simp [errW_none, errW_some] <;> rfl) | (simp [*, errW_none, errW_some] <;> rfl), by repeat (first | (with_reducible first | exact HB.out | apply below_alloc | apply pw_below_drewN | apply below_drew1) | exact HB.out)⟩
                  · replace c17 := Bool.eq_false_iff.mpr c17
                    subst c17
                    have H1 : (grapnelref16_Exns.l1 kj7 l0 y185 x4_2 0) = some r := by rw [if_neg (show ¬ (false = true) by decide)] at H; exact H
                    clear H
                    have H := H1
                    clear H1
                    have H' := Aside0.mk H
                    clear H
                    go_wp2
                    repeat (go_quiet (fail); try go_wp2)
                    go_loopg [5] kj7 (fun kq v5 w' => ∃ (x5_4 : Int), v5 = .int .i64 x5_4 ∧ Aside0 (grapnelref16_Exns.l1 kq l0 y185 x4_2 x5_4 = some r) ∧ Aside0 (kq ≤ kj7) ∧ Aside0 (Kd.R Kd.string 9 w' w.heap.size (fun _ => True) v186 y185) ∧ Aside0 (Below w.heap.size w w'))
                    case atStart => exact ⟨(0), (by first | rfl | (simp; done) | (simp [*]; done)), H', ⟨Nat.le_refl _⟩, ⟨by (with_reducible repeat (first | apply Kd.R_alloc | apply Kd.R_drewN | apply Kd.R_drew)); exact HO_3.out⟩, ⟨by repeat (first | (with_reducible first | exact HB.out | apply below_alloc | apply pw_below_drewN | apply below_drew1) | exact HB.out)⟩⟩
                    case round =>
                      clear H'
                      try clear c1
                      try clear p1
                      try clear q1
                      try clear hx1
                      try clear c2
                      try clear p2
                      try clear c5
                      try clear c5b0
                      try clear c5b1
                      try clear c6
                      try clear c7
                      try clear c7b0
                      try clear c9
                      try clear c9b0
                      try clear c10
                      try clear c10b0
                      try clear c10b1
                      try clear c11
                      try clear c11b0
                      try clear c11b1
                      try clear c12
                      try clear c12b0
                      try clear c13
                      try clear c13b0
                      try clear c14
                      try clear c14b0
                      try clear c14b1
                      try clear c17
                      try clear hx188_0
                      try clear hx188_1
                      try clear hx189_0
                      try clear hx189_1
                      try clear hx190_0
                      try clear hx190_1
                      try clear hx191_0
                      try clear hx192_0
                      try clear hx192_1
                      try clear p1
                      try clear p188
                      try clear p189
                      try clear p190
                      try clear p191
                      try clear p192
                      try clear p2
                      try clear q1
                      try clear q188
                      try clear q189
                      try clear q190
                      try clear q191
                      try clear q192
                      obtain ⟨x5_4, rfl, HA, HK4, HO_3, HB⟩ := hrel
                      cases gk with
                      | zero => exact absurd HA.out (by simp [grapnelref16_Exns.l1])
                      | succ k4 =>
                        have H := HA.out
                        clear HA
                        simp only [grapnelref16_Exns.l1] at H
                        by_cases c18 : x5_4 < x4_2
                        · rw [if_pos c18] at H
                          have c18b0 : decide (x5_4 < x4_2) = true := decide_eq_true c18
                          clear c18
                          by_cases c19 : 0 ≤ x5_4
                          · rw [if_pos c19] at H
                            have c19b0 : decide (0 ≤ x5_4) = true := decide_eq_true c19
                            clear c19
                            by_cases c20 : x5_4 < (l0.length : Int)
                            · rw [if_pos c20] at H
                              have c20b0 : decide (x5_4 < (l0.length : Int)) = true := decide_eq_true c20
                              clear c20
                              by_cases c21 : 0 ≤ x4_2
                              · rw [if_pos c21] at H
                                have c21b0 : decide (0 ≤ x4_2) = true := decide_eq_true c21
                                clear c21
                                by_cases c22 : x4_2 < (l0.length : Int)
                                · rw [if_pos c22] at H
                                  have c22b0 : decide (x4_2 < (l0.length : Int)) = true := decide_eq_true c22
                                  clear c22
                                  by_cases c23 : ((rd_T45 l0 x5_4).f0).toList = ((rd_T45 l0 x4_2).f0).toList
                                  · rw [if_pos c23] at H
                                    have c23b0 : (((rd_T45 l0 x5_4).f0).toList == ((rd_T45 l0 x4_2).f0).toList) = true := beq_iff_eq.mpr c23
                                    have c23b1 : (((rd_T45 l0 x5_4).f0).toList != ((rd_T45 l0 x4_2).f0).toList) = false := bne_eq_false_iff_eq.mpr c23
                                    clear c23
                                    obtain rfl := Option.some.inj H
                                    have p193 : 0 ≤ (x5_4 : Int) := of_decide_eq_true (by first | (with_reducible assumption) | assumption)
                                    have q193 : x5_4 < (l0.length : Int) := of_decide_eq_true (by first | (with_reducible assumption) | assumption)
                                    obtain ⟨ad193, e193, hx193_0, hx193_1⟩ := at_T45 HR0.out x5_4 p193 q193
                                    cases e193
                                    replace hx193_0 := (HB.out.cell (World.block_lt_of_cell? w _ hx193_0)).trans hx193_0
                                    replace hx193_1 := (HB.out.cell (World.block_lt_of_cell? w _ hx193_1)).trans hx193_1
                                    replace p193 := eq_true p193
                                    replace q193 := eq_true q193
                                    have p194 : 0 ≤ (x4_2 : Int) := of_decide_eq_true (by first | (with_reducible assumption) | assumption)
                                    have q194 : x4_2 < (l0.length : Int) := of_decide_eq_true (by first | (with_reducible assumption) | assumption)
                                    obtain ⟨ad194, e194, hx194_0, hx194_1⟩ := at_T45 HR0.out x4_2 p194 q194
                                    obtain rfl : ad193 = ad194 := (by injection e194)
                                    replace hx194_0 := (HB.out.cell (World.block_lt_of_cell? w _ hx194_0)).trans hx194_0
                                    replace hx194_1 := (HB.out.cell (World.block_lt_of_cell? w _ hx194_1)).trans hx194_1
                                    replace p194 := eq_true p194
                                    replace q194 := eq_true q194
                                    go_wp2
                                    repeat (go_quiet (fail); try go_wp2)
                                    go_ret
                                    exact ⟨by first | rfl | (simp [errW_none, errW_some] <;> rfl) | (simp [*, errW_none, errW_some] <;> rfl), by repeat (first | (with_reducible first | exact HB.out | apply below_alloc | apply pw_below_drewN | apply below_drew1) | exact HB.out)⟩
                                  · rw [if_neg c23] at H
                                    have c23b0 : (((rd_T45 l0 x5_4).f0).toList == ((rd_T45 l0 x4_2).f0).toList) = false := beq_eq_false_iff_ne.mpr c23
                                    have c23b1 : (((rd_T45 l0 x5_4).f0).toList != ((rd_T45 l0 x4_2).f0).toList) = true := bne_iff_ne.mpr c23
                                    have H' := Aside0.mk H
                                    clear H
                                    have p193 : 0 ≤ (x5_4 : Int) := of_decide_eq_true (by first | (with_reducible assumption) | assumption)
                                    have q193 : x5_4 < (l0.length : Int) := of_decide_eq_true (by first | (with_reducible assumption) | assumption)
                                    obtain ⟨ad193, e193, hx193_0, hx193_1⟩ := at_T45 HR0.out x5_4 p193 q193
                                    cases e193
                                    replace hx193_0 := (HB.out.cell (World.block_lt_of_cell? w _ hx193_0)).trans hx193_0
                                    replace hx193_1 := (HB.out.cell (World.block_lt_of_cell? w _ hx193_1)).trans hx193_1
                                    replace p193 := eq_true p193
                                    replace q193 := eq_true q193
                                    have p194 : 0 ≤ (x4_2 : Int) := of_decide_eq_true (by first | (with_reducible assumption) | assumption)
                                    have q194 : x4_2 < (l0.length : Int) := of_decide_eq_true (by first | (with_reducible assumption) | assumption)
                                    obtain ⟨ad194, e194, hx194_0, hx194_1⟩ := at_T45 HR0.out x4_2 p194 q194
                                    obtain rfl : ad193 = ad194 := (by injection e194)
                                    replace hx194_0 := (HB.out.cell (World.block_lt_of_cell? w _ hx194_0)).trans hx194_0
                                    replace hx194_1 := (HB.out.cell (World.block_lt_of_cell? w _ hx194_1)).trans hx194_1
                                    replace p194 := eq_true p194
                                    replace q194 := eq_true q194
                                    go_wp2
                                    repeat (go_quiet (fail); try go_wp2)
                                    go_roundg k4
                                    case measure => have := HJ1.out; have := HK2.out; have := HJ7.out; have := HK4.out; omega
                                    case rel => exact ⟨(wrap64 (x5_4 + 1)), (by first | rfl | (simp; done) | (simp [*]; done)), H', ⟨by have := HJ1.out; have := HK2.out; have := HJ7.out; have := HK4.out; omega⟩, ⟨by (with_reducible repeat (first | apply Kd.R_alloc | apply Kd.R_drewN | apply Kd.R_drew)); exact HO_3.out⟩, ⟨by repeat (first | (with_reducible first | exact HB.out | apply below_alloc | apply pw_below_drewN | apply below_drew1) | exact HB.out)⟩⟩
                                · rw [if_neg c22] at H
                                  exact absurd H (by simp)
                              · rw [if_neg c21] at H
                                exact absurd H (by simp)
                            · rw [if_neg c20] at H
                              exact absurd H (by simp)
                          · rw [if_neg c19] at H
                            exact absurd H (by simp)
                        · rw [if_neg c18] at H
                          have c18b0 : decide (x5_4 < x4_2) = false := decide_eq_false c18
                          clear c18
                          have H' := Aside0.mk H
                          clear H
                          go_wp2
                          repeat (go_quiet (fail); try go_wp2)
                          go_roundg k4
                          case measure => have := HJ1.out; have := HK2.out; have := HJ7.out; have := HK4.out; omega
                          case rel => exact ⟨(wrap64 (x4_2 + 1)), (by first | rfl | (simp; done) | (simp [*]; done)), H', ⟨by have := HJ1.out; have := HK2.out; have := HJ7.out; have := HK4.out; omega⟩, ⟨by (with_reducible repeat (first | apply Kd.R_alloc | apply Kd.R_drewN | apply Kd.R_drew)); exact HO_3.out⟩, ⟨by repeat (first | (with_reducible first | exact HB.out | apply below_alloc | apply pw_below_drewN | apply below_drew1) | exact HB.out)⟩⟩
            · rw [if_neg c7] at H
              have c7b0 : decide (x4_2 < (l0.length : Int)) = false := decide_eq_false c7
              clear c7
              obtain rfl := Option.some.inj H
              go_wp2
              repeat (go_quiet (fail); try go_wp2)
              go_ret
              exact ⟨by first | rfl | (simp [errW_none, errW_some] <;> rfl) | (simp [*, errW_none, errW_some] <;> rfl), by repeat (first | (with_reducible first | exact HB.out | apply below_alloc | apply pw_below_drewN | apply below_drew1) | exact HB.out)⟩

end Go.Proofs.Ytmjafkhkoifopaa.PCodeDecodes
end
section
-- A cut of a printed text.
namespace Go.Proofs.Ytmjafkhkoifopaa.PCodeDecodes
open Go.RowKit Go.Proofs.YtmjafkhkoifopaaW.PrintWords Go.Proofs.YtmjafkhkoifopaaW.PrintLast Go.Proofs.YtmjafkhkoifopaaW.PrintMore
attribute [local go_sem] max2_int min2_int max_two min_two max_three min_three max_four min_four   -- for this text's walks alone
set_option linter.unusedVariables false
set_option linter.unusedSimpArgs false

/-! ### grapnelref16_shape: function 36 -/
mutual
def grapnelref16_shape.j0 : Nat → Int → Bool → Option (ByteArray)
  | 0, _, _ => none
  | k + 1, x3, x4 => if x4 = true then (some (⟨#[65]⟩ : ByteArray)) else (if x3 = 11 then (grapnelref16_shape.j1 k x3 (x3 == 11)) else (grapnelref16_shape.j1 k x3 (x3 == 17)))
def grapnelref16_shape.j1 : Nat → Int → Bool → Option (ByteArray)
  | 0, _, _ => none
  | k + 1, x3, x19 => if x19 = true then (some (⟨#[65, 66]⟩ : ByteArray)) else (if x3 = 9 then (grapnelref16_shape.j2 k x3 (x3 == 9)) else (if x3 = 24 then (grapnelref16_shape.j2 k x3 (x3 == 24)) else (if x3 = 25 then (grapnelref16_shape.j2 k x3 (x3 == 25)) else (grapnelref16_shape.j2 k x3 (x3 == 27)))))
def grapnelref16_shape.j2 : Nat → Int → Bool → Option (ByteArray)
  | 0, _, _ => none
  | k + 1, x3, x22 => if x22 = true then (some (⟨#[49]⟩ : ByteArray)) else (if x3 = 15 then (some (⟨#[65, 49]⟩ : ByteArray)) else (if x3 = 16 then (some (⟨#[65, 76]⟩ : ByteArray)) else (if x3 = 26 then (some (⟨#[84, 76]⟩ : ByteArray)) else (if x3 = 6 then (some (⟨#[]⟩ : ByteArray)) else (if x3 = 12 then (some (⟨#[]⟩ : ByteArray)) else (if x3 = 20 then (some (⟨#[]⟩ : ByteArray)) else (if x3 = 21 then (some (⟨#[]⟩ : ByteArray)) else (if x3 = 28 then (some (⟨#[]⟩ : ByteArray)) else (if x3 = 29 then (some (⟨#[]⟩ : ByteArray)) else (if x3 = 30 then (some (⟨#[]⟩ : ByteArray)) else (some (⟨#[63]⟩ : ByteArray))))))))))))
end
def grapnelref16_shape.f (k : Nat) (a0 : Int) : Option (ByteArray) := if a0 = 1 then (grapnelref16_shape.j0 k a0 (a0 == 1)) else (if a0 = 2 then (grapnelref16_shape.j0 k a0 (a0 == 2)) else (if a0 = 3 then (grapnelref16_shape.j0 k a0 (a0 == 3)) else (if a0 = 4 then (grapnelref16_shape.j0 k a0 (a0 == 4)) else (if a0 = 5 then (grapnelref16_shape.j0 k a0 (a0 == 5)) else (if a0 = 7 then (grapnelref16_shape.j0 k a0 (a0 == 7)) else (if a0 = 8 then (grapnelref16_shape.j0 k a0 (a0 == 8)) else (if a0 = 10 then (grapnelref16_shape.j0 k a0 (a0 == 10)) else (if a0 = 13 then (grapnelref16_shape.j0 k a0 (a0 == 13)) else (if a0 = 14 then (grapnelref16_shape.j0 k a0 (a0 == 14)) else (if a0 = 18 then (grapnelref16_shape.j0 k a0 (a0 == 18)) else (if a0 = 19 then (grapnelref16_shape.j0 k a0 (a0 == 19)) else (if a0 = 22 then (grapnelref16_shape.j0 k a0 (a0 == 22)) else (grapnelref16_shape.j0 k a0 (a0 == 23))))))))))))))
theorem grapnelref16_shape.mono_l : ∀ k, (∀ y0 y1, LeO (grapnelref16_shape.j0 k y0 y1) (grapnelref16_shape.j0 (k + 1) y0 y1)) ∧ (∀ y0 y1, LeO (grapnelref16_shape.j1 k y0 y1) (grapnelref16_shape.j1 (k + 1) y0 y1)) ∧ (∀ y0 y1, LeO (grapnelref16_shape.j2 k y0 y1) (grapnelref16_shape.j2 (k + 1) y0 y1))
  | 0 => ⟨fun _ _ r h => by simp [grapnelref16_shape.j0] at h, fun _ _ r h => by simp [grapnelref16_shape.j1] at h, fun _ _ r h => by simp [grapnelref16_shape.j2] at h⟩
  | k + 1 => by
    obtain ⟨ih0, ih1, ih2⟩ := grapnelref16_shape.mono_l k
    refine ⟨?_, ?_, ?_⟩
    · intro y0 y1
      unfold grapnelref16_shape.j0
      repeat' first
      | (with_reducible exact ih0 _ _)
      | (with_reducible exact ih1 _ _)
      | (with_reducible exact ih2 _ _)
      | (with_reducible exact LeO.refl _)
      | (with_reducible exact LeO.none _)
      | (with_reducible refine LeO.ite ?_ ?_)
      | (with_reducible refine LeO.bind ?_ (fun _ => ?_))
      | exact ih0 _ _
      | exact ih1 _ _
      | exact ih2 _ _
      | exact LeO.none _
      | refine LeO.ite ?_ ?_
      | refine LeO.bind ?_ (fun _ => ?_)
    · intro y0 y1
      unfold grapnelref16_shape.j1
      repeat' first
      | (with_reducible exact ih0 _ _)
      | (with_reducible exact ih1 _ _)
      | (with_reducible exact ih2 _ _)
      | (with_reducible exact LeO.refl _)
      | (with_reducible exact LeO.none _)
      | (with_reducible refine LeO.ite ?_ ?_)
      | (with_reducible refine LeO.bind ?_ (fun _ => ?_))
      | exact ih0 _ _
      | exact ih1 _ _
      | exact ih2 _ _
      | exact LeO.none _
      | refine LeO.ite ?_ ?_
      | refine LeO.bind ?_ (fun _ => ?_)
    · intro y0 y1
      unfold grapnelref16_shape.j2
      repeat' first
      | (with_reducible exact ih0 _ _)
      | (with_reducible exact ih1 _ _)
      | (with_reducible exact ih2 _ _)
      | (with_reducible exact LeO.refl _)
      | (with_reducible exact LeO.none _)
      | (with_reducible refine LeO.ite ?_ ?_)
      | (with_reducible refine LeO.bind ?_ (fun _ => ?_))
      | exact ih0 _ _
      | exact ih1 _ _
      | exact ih2 _ _
      | exact LeO.none _
      | refine LeO.ite ?_ ?_
      | refine LeO.bind ?_ (fun _ => ?_)
theorem grapnelref16_shape.mono : ∀ a0 k, LeO (grapnelref16_shape.f k a0) (grapnelref16_shape.f (k + 1) a0) := by
  intro a0 k
  obtain ⟨ih0, ih1, ih2⟩ := grapnelref16_shape.mono_l k
  unfold grapnelref16_shape.f
  repeat' first
      | (with_reducible exact ih0 _ _)
      | (with_reducible exact ih1 _ _)
      | (with_reducible exact ih2 _ _)
      | (with_reducible exact LeO.refl _)
      | (with_reducible exact LeO.none _)
      | (with_reducible refine LeO.ite ?_ ?_)
      | (with_reducible refine LeO.bind ?_ (fun _ => ?_))
      | exact ih0 _ _
      | exact ih1 _ _
      | exact ih2 _ _
      | exact LeO.none _
      | refine LeO.ite ?_ ?_
      | refine LeO.bind ?_ (fun _ => ?_)
set_option maxHeartbeats 8000000 in
set_option maxRecDepth 100000 in
theorem grapnelref16_shape.calls (k : Nat) (a0 : Int) (r : ByteArray) (w : World) (h : grapnelref16_shape.f k a0 = some r) :
    Calls Try.prog 36 #[.int .i64 a0] w fun e w' => e = .returned (.string r) ∧ Drawn0 w w' := by
  have H : (if a0 = 1 then (grapnelref16_shape.j0 k a0 (a0 == 1)) else (if a0 = 2 then (grapnelref16_shape.j0 k a0 (a0 == 2)) else (if a0 = 3 then (grapnelref16_shape.j0 k a0 (a0 == 3)) else (if a0 = 4 then (grapnelref16_shape.j0 k a0 (a0 == 4)) else (if a0 = 5 then (grapnelref16_shape.j0 k a0 (a0 == 5)) else (if a0 = 7 then (grapnelref16_shape.j0 k a0 (a0 == 7)) else (if a0 = 8 then (grapnelref16_shape.j0 k a0 (a0 == 8)) else (if a0 = 10 then (grapnelref16_shape.j0 k a0 (a0 == 10)) else (if a0 = 13 then (grapnelref16_shape.j0 k a0 (a0 == 13)) else (if a0 = 14 then (grapnelref16_shape.j0 k a0 (a0 == 14)) else (if a0 = 18 then (grapnelref16_shape.j0 k a0 (a0 == 18)) else (if a0 = 19 then (grapnelref16_shape.j0 k a0 (a0 == 19)) else (if a0 = 22 then (grapnelref16_shape.j0 k a0 (a0 == 22)) else (grapnelref16_shape.j0 k a0 (a0 == 23))))))))))))))) = some r := h
  clear h
  have HC2 := Aside0.mk H
  clear H
  go_enter Try.func36, Try.ntmps36
  go_upto_if 4 with (fail)
  go_cut [4] (fun v4 wc => ∃ (kq : Nat) (x4_1 : Bool), v4 = .bool x4_1 ∧ Aside0 (grapnelref16_shape.j0 kq a0 x4_1 = some r) ∧ Aside0 (kq ≤ k) ∧ Drawn0 w wc)
  case first =>
    have H := HC2.out
    clear HC2
    by_cases c3 : a0 = 1
    · rw [if_pos c3] at H
      have c3b0 : (a0 == 1) = true := beq_iff_eq.mpr c3
      have c3b1 : (a0 != 1) = false := bne_eq_false_iff_eq.mpr c3
      clear c3
      (first | rw [c3b0] | (simp only [i64_w, i32_w]; rw [c3b0]) | skip)
      have H' := Aside0.mk H
      clear H
      go_wp2
      go_meet
      case rel => exact ⟨_, ((a0 == 1)), (by first | rfl | (simp; done) | (simp [*]; done)), H', ⟨by first | omega | exact Nat.le_refl _⟩, by repeat (first | exact Drawn0.refl _ | apply Drawn0.step)⟩
    · rw [if_neg c3] at H
      have c3b0 : (a0 == 1) = false := beq_eq_false_iff_ne.mpr c3
      have c3b1 : (a0 != 1) = true := bne_iff_ne.mpr c3
      (first | rw [c3b0] | (simp only [i64_w, i32_w]; rw [c3b0]) | skip)
      by_cases c4 : a0 = 2
      · rw [if_pos c4] at H
        have c4b0 : (a0 == 2) = true := beq_iff_eq.mpr c4
        have c4b1 : (a0 != 2) = false := bne_eq_false_iff_eq.mpr c4
        clear c4
        have H' := Aside0.mk H
        clear H
        go_wp2
        go_meet
        case rel => exact ⟨_, ((a0 == 2)), (by first | rfl | (simp; done) | (simp [*]; done)), H', ⟨by first | omega | exact Nat.le_refl _⟩, by repeat (first | exact Drawn0.refl _ | apply Drawn0.step)⟩
      · rw [if_neg c4] at H
        have c4b0 : (a0 == 2) = false := beq_eq_false_iff_ne.mpr c4
        have c4b1 : (a0 != 2) = true := bne_iff_ne.mpr c4
        by_cases c5 : a0 = 3
        · rw [if_pos c5] at H
          have c5b0 : (a0 == 3) = true := beq_iff_eq.mpr c5
          have c5b1 : (a0 != 3) = false := bne_eq_false_iff_eq.mpr c5
          clear c5
          have H' := Aside0.mk H
          clear H
          go_wp2
          go_meet
          case rel => exact ⟨_, ((a0 == 3)), (by first | rfl | (simp; done) | (simp [*]; done)), H', ⟨by first | omega | exact Nat.le_refl _⟩, by repeat (first | exact Drawn0.refl _ | apply Drawn0.step)⟩
        · rw [if_neg c5] at H
          have c5b0 : (a0 == 3) = false := beq_eq_false_iff_ne.mpr c5
          have c5b1 : (a0 != 3) = true := bne_iff_ne.mpr c5
          by_cases c6 : a0 = 4
          · rw [if_pos c6] at H
            have c6b0 : (a0 == 4) = true := beq_iff_eq.mpr c6
            have c6b1 : (a0 != 4) = false := bne_eq_false_iff_eq.mpr c6
            clear c6
            have H' := Aside0.mk H
            clear H
            go_wp2
            go_meet
            case rel => exact ⟨_, ((a0 == 4)), (by first | rfl | (simp; done) | (simp [*]; done)), H', ⟨by first | omega | exact Nat.le_refl _⟩, by repeat (first | exact Drawn0.refl _ | apply Drawn0.step)⟩
          · rw [if_neg c6] at H
            have c6b0 : (a0 == 4) = false := beq_eq_false_iff_ne.mpr c6
            have c6b1 : (a0 != 4) = true := bne_iff_ne.mpr c6
            by_cases c7 : a0 = 5
            · rw [if_pos c7] at H
              have c7b0 : (a0 == 5) = true := beq_iff_eq.mpr c7
              have c7b1 : (a0 != 5) = false := bne_eq_false_iff_eq.mpr c7
              clear c7
              have H' := Aside0.mk H
              clear H
              go_wp2
              go_meet
              case rel => exact ⟨_, ((a0 == 5)), (by first | rfl | (simp; done) | (simp [*]; done)), H', ⟨by first | omega | exact Nat.le_refl _⟩, by repeat (first | exact Drawn0.refl _ | apply Drawn0.step)⟩
            · rw [if_neg c7] at H
              have c7b0 : (a0 == 5) = false := beq_eq_false_iff_ne.mpr c7
              have c7b1 : (a0 != 5) = true := bne_iff_ne.mpr c7
              by_cases c8 : a0 = 7
              · rw [if_pos c8] at H
                have c8b0 : (a0 == 7) = true := beq_iff_eq.mpr c8
                have c8b1 : (a0 != 7) = false := bne_eq_false_iff_eq.mpr c8
                clear c8
                have H' := Aside0.mk H
                clear H
                go_wp2
                go_meet
                case rel => exact ⟨_, ((a0 == 7)), (by first | rfl | (simp; done) | (simp [*]; done)), H', ⟨by first | omega | exact Nat.le_refl _⟩, by repeat (first | exact Drawn0.refl _ | apply Drawn0.step)⟩
              · rw [if_neg c8] at H
                have c8b0 : (a0 == 7) = false := beq_eq_false_iff_ne.mpr c8
                have c8b1 : (a0 != 7) = true := bne_iff_ne.mpr c8
                by_cases c9 : a0 = 8
                · rw [if_pos c9] at H
                  have c9b0 : (a0 == 8) = true := beq_iff_eq.mpr c9
                  have c9b1 : (a0 != 8) = false := bne_eq_false_iff_eq.mpr c9
                  clear c9
                  have H' := Aside0.mk H
                  clear H
                  go_wp2
                  go_meet
                  case rel => exact ⟨_, ((a0 == 8)), (by first | rfl | (simp; done) | (simp [*]; done)), H', ⟨by first | omega | exact Nat.le_refl _⟩, by repeat (first | exact Drawn0.refl _ | apply Drawn0.step)⟩
                · rw [if_neg c9] at H
                  have c9b0 : (a0 == 8) = false := beq_eq_false_iff_ne.mpr c9
                  have c9b1 : (a0 != 8) = true := bne_iff_ne.mpr c9
                  by_cases c10 : a0 = 10
                  · rw [if_pos c10] at H
                    have c10b0 : (a0 == 10) = true := beq_iff_eq.mpr c10
                    have c10b1 : (a0 != 10) = false := bne_eq_false_iff_eq.mpr c10
                    clear c10
                    have H' := Aside0.mk H
                    clear H
                    go_wp2
                    go_meet
                    case rel => exact ⟨_, ((a0 == 10)), (by first | rfl | (simp; done) | (simp [*]; done)), H', ⟨by first | omega | exact Nat.le_refl _⟩, by repeat (first | exact Drawn0.refl _ | apply Drawn0.step)⟩
                  · rw [if_neg c10] at H
                    have c10b0 : (a0 == 10) = false := beq_eq_false_iff_ne.mpr c10
                    have c10b1 : (a0 != 10) = true := bne_iff_ne.mpr c10
                    by_cases c11 : a0 = 13
                    · rw [if_pos c11] at H
                      have c11b0 : (a0 == 13) = true := beq_iff_eq.mpr c11
                      have c11b1 : (a0 != 13) = false := bne_eq_false_iff_eq.mpr c11
                      clear c11
                      have H' := Aside0.mk H
                      clear H
                      go_wp2
                      go_meet
                      case rel => exact ⟨_, ((a0 == 13)), (by first | rfl | (simp; done) | (simp [*]; done)), H', ⟨by first | omega | exact Nat.le_refl _⟩, by repeat (first | exact Drawn0.refl _ | apply Drawn0.step)⟩
                    · rw [if_neg c11] at H
                      have c11b0 : (a0 == 13) = false := beq_eq_false_iff_ne.mpr c11
                      have c11b1 : (a0 != 13) = true := bne_iff_ne.mpr c11
                      by_cases c12 : a0 = 14
                      · rw [if_pos c12] at H
                        have c12b0 : (a0 == 14) = true := beq_iff_eq.mpr c12
                        have c12b1 : (a0 != 14) = false := bne_eq_false_iff_eq.mpr c12
                        clear c12
                        have H' := Aside0.mk H
                        clear H
                        go_wp2
                        go_meet
                        case rel => exact ⟨_, ((a0 == 14)), (by first | rfl | (simp; done) | (simp [*]; done)), H', ⟨by first | omega | exact Nat.le_refl _⟩, by repeat (first | exact Drawn0.refl _ | apply Drawn0.step)⟩
                      · rw [if_neg c12] at H
                        have c12b0 : (a0 == 14) = false := beq_eq_false_iff_ne.mpr c12
                        have c12b1 : (a0 != 14) = true := bne_iff_ne.mpr c12
                        by_cases c13 : a0 = 18
                        · rw [if_pos c13] at H
                          have c13b0 : (a0 == 18) = true := beq_iff_eq.mpr c13
                          have c13b1 : (a0 != 18) = false := bne_eq_false_iff_eq.mpr c13
                          clear c13
                          have H' := Aside0.mk H
                          clear H
                          go_wp2
                          go_meet
                          case rel => exact ⟨_, ((a0 == 18)), (by first | rfl | (simp; done) | (simp [*]; done)), H', ⟨by first | omega | exact Nat.le_refl _⟩, by repeat (first | exact Drawn0.refl _ | apply Drawn0.step)⟩
                        · rw [if_neg c13] at H
                          have c13b0 : (a0 == 18) = false := beq_eq_false_iff_ne.mpr c13
                          have c13b1 : (a0 != 18) = true := bne_iff_ne.mpr c13
                          by_cases c14 : a0 = 19
                          · rw [if_pos c14] at H
                            have c14b0 : (a0 == 19) = true := beq_iff_eq.mpr c14
                            have c14b1 : (a0 != 19) = false := bne_eq_false_iff_eq.mpr c14
                            clear c14
                            have H' := Aside0.mk H
                            clear H
                            go_wp2
                            go_meet
                            case rel => exact ⟨_, ((a0 == 19)), (by first | rfl | (simp; done) | (simp [*]; done)), H', ⟨by first | omega | exact Nat.le_refl _⟩, by repeat (first | exact Drawn0.refl _ | apply Drawn0.step)⟩
                          · rw [if_neg c14] at H
                            have c14b0 : (a0 == 19) = false := beq_eq_false_iff_ne.mpr c14
                            have c14b1 : (a0 != 19) = true := bne_iff_ne.mpr c14
                            by_cases c15 : a0 = 22
                            · rw [if_pos c15] at H
                              have c15b0 : (a0 == 22) = true := beq_iff_eq.mpr c15
                              have c15b1 : (a0 != 22) = false := bne_eq_false_iff_eq.mpr c15
                              clear c15
                              have H' := Aside0.mk H
                              clear H
                              go_wp2
                              go_meet
                              case rel => exact ⟨_, ((a0 == 22)), (by first | rfl | (simp; done) | (simp [*]; done)), H', ⟨by first | omega | exact Nat.le_refl _⟩, by repeat (first | exact Drawn0.refl _ | apply Drawn0.step)⟩
                            · rw [if_neg c15] at H
                              have c15b0 : (a0 == 22) = false := beq_eq_false_iff_ne.mpr c15
                              have c15b1 : (a0 != 22) = true := bne_iff_ne.mpr c15
                              have H' := Aside0.mk H
                              clear H
                              go_wp2
                              go_meet
                              case rel => exact ⟨_, ((a0 == 23)), (by first | rfl | (simp; done) | (simp [*]; done)), H', ⟨by first | omega | exact Nat.le_refl _⟩, by repeat (first | exact Drawn0.refl _ | apply Drawn0.step)⟩
  case rest =>
    clear HC2
    try clear c1
    try clear p2
    try clear c3
    try clear c3b0
    try clear c3b1
    try clear c4
    try clear c4b0
    try clear c4b1
    try clear c5
    try clear c5b0
    try clear c5b1
    try clear c6
    try clear c6b0
    try clear c6b1
    try clear c7
    try clear c7b0
    try clear c7b1
    try clear c8
    try clear c8b0
    try clear c8b1
    try clear c9
    try clear c9b0
    try clear c9b1
    try clear c10
    try clear c10b0
    try clear c10b1
    try clear c11
    try clear c11b0
    try clear c11b1
    try clear c12
    try clear c12b0
    try clear c12b1
    try clear c13
    try clear c13b0
    try clear c13b1
    try clear c14
    try clear c14b0
    try clear c14b1
    try clear c15
    try clear c15b0
    try clear c15b1
    obtain ⟨kq, x4_1, rfl, HA, HJ1, ⟨mc1, rfl⟩⟩ := hcut
    cases kq with
    | zero => exact absurd HA.out (by simp [grapnelref16_shape.j0])
    | succ kj1 =>
      have H := HA.out
      clear HA
      simp only [grapnelref16_shape.j0] at H
      by_cases c16 : x4_1 = true
      · subst c16
        have H1 : (some (⟨#[65]⟩ : ByteArray)) = some r := by rw [if_pos rfl] at H; exact H
        clear H
        have H := H1
        clear H1
        obtain rfl := Option.some.inj H
        go_wp2
        go_ret
        exact ⟨by first | rfl | (simp; done) | (simp [*]; done), by repeat (first | exact Drawn0.refl _ | apply Drawn0.step)⟩
      · replace c16 := Bool.eq_false_iff.mpr c16
        subst c16
        have H1 : (if a0 = 11 then (grapnelref16_shape.j1 kj1 a0 (a0 == 11)) else (grapnelref16_shape.j1 kj1 a0 (a0 == 17))) = some r := by rw [if_neg (show ¬ (false = true) by decide)] at H; exact H
        clear H
        have H := H1
        clear H1
        have HC17 := Aside0.mk H
        clear H
        go_upto_if 19 with (fail)
        go_cut [19] (fun v19 wc => ∃ (kq : Nat) (x19_16 : Bool), v19 = .bool x19_16 ∧ Aside0 (grapnelref16_shape.j1 kq a0 x19_16 = some r) ∧ Aside0 (kq ≤ kj1) ∧ Drawn0 w wc)
        case first =>
          have H := HC17.out
          clear HC17
          by_cases c18 : a0 = 11
          · rw [if_pos c18] at H
            have c18b0 : (a0 == 11) = true := beq_iff_eq.mpr c18
            have c18b1 : (a0 != 11) = false := bne_eq_false_iff_eq.mpr c18
            clear c18
            (first | rw [c18b0] | (simp only [i64_w, i32_w]; rw [c18b0]) | skip)
            have H' := Aside0.mk H
            clear H
            go_wp2
            go_meet
            case rel => exact ⟨_, ((a0 == 11)), (by first | rfl | (simp; done) | (simp [*]; done)), H', ⟨by have := HJ1.out; first | omega | exact Nat.le_refl _⟩, by repeat (first | exact Drawn0.refl _ | apply Drawn0.step)⟩
          · rw [if_neg c18] at H
            have c18b0 : (a0 == 11) = false := beq_eq_false_iff_ne.mpr c18
            have c18b1 : (a0 != 11) = true := bne_iff_ne.mpr c18
            (first | rw [c18b0] | (simp only [i64_w, i32_w]; rw [c18b0]) | skip)
            have H' := Aside0.mk H
            clear H
            go_wp2
            go_meet
            case rel => exact ⟨_, ((a0 == 17)), (by first | rfl | (simp; done) | (simp [*]; done)), H', ⟨by have := HJ1.out; first | omega | exact Nat.le_refl _⟩, by repeat (first | exact Drawn0.refl _ | apply Drawn0.step)⟩
        case rest =>
          clear HC17
          try clear c1
          try clear p2
          try clear c3
          try clear c3b0
          try clear c3b1
          try clear c4
          try clear c4b0
          try clear c4b1
          try clear c5
          try clear c5b0
          try clear c5b1
          try clear c6
          try clear c6b0
          try clear c6b1
          try clear c7
          try clear c7b0
          try clear c7b1
          try clear c8
          try clear c8b0
          try clear c8b1
          try clear c9
          try clear c9b0
          try clear c9b1
          try clear c10
          try clear c10b0
          try clear c10b1
          try clear c11
          try clear c11b0
          try clear c11b1
          try clear c12
          try clear c12b0
          try clear c12b1
          try clear c13
          try clear c13b0
          try clear c13b1
          try clear c14
          try clear c14b0
          try clear c14b1
          try clear c15
          try clear c15b0
          try clear c15b1
          try clear c16
          try clear c18
          try clear c18b0
          try clear c18b1
          try clear p2
          obtain ⟨kq, x19_16, rfl, HA, HJ16, ⟨mc16, rfl⟩⟩ := hcut
          cases kq with
          | zero => exact absurd HA.out (by simp [grapnelref16_shape.j1])
          | succ kj16 =>
            have H := HA.out
            clear HA
            simp only [grapnelref16_shape.j1] at H
            by_cases c19 : x19_16 = true
            · subst c19
              have H1 : (some (⟨#[65, 66]⟩ : ByteArray)) = some r := by rw [if_pos rfl] at H; exact H
              clear H
              have H := H1
              clear H1
              obtain rfl := Option.some.inj H
              go_wp2
              go_ret
              exact ⟨by first | rfl | (simp; done) | (simp [*]; done), by repeat (first | exact Drawn0.refl _ | apply Drawn0.step)⟩
            · replace c19 := Bool.eq_false_iff.mpr c19
              subst c19
              have H1 : (if a0 = 9 then (grapnelref16_shape.j2 kj16 a0 (a0 == 9)) else (if a0 = 24 then (grapnelref16_shape.j2 kj16 a0 (a0 == 24)) else (if a0 = 25 then (grapnelref16_shape.j2 kj16 a0 (a0 == 25)) else (grapnelref16_shape.j2 kj16 a0 (a0 == 27))))) = some r := by rw [if_neg (show ¬ (false = true) by decide)] at H; exact H
              clear H
              have H := H1
              clear H1
              have HC20 := Aside0.mk H
              clear H
              go_upto_if 22 with (fail)
              go_cut [22] (fun v22 wc => ∃ (kq : Nat) (x22_19 : Bool), v22 = .bool x22_19 ∧ Aside0 (grapnelref16_shape.j2 kq a0 x22_19 = some r) ∧ Aside0 (kq ≤ kj16) ∧ Drawn0 w wc)
              case first =>
                have H := HC20.out
                clear HC20
                by_cases c21 : a0 = 9
                · rw [if_pos c21] at H
                  have c21b0 : (a0 == 9) = true := beq_iff_eq.mpr c21
                  have c21b1 : (a0 != 9) = false := bne_eq_false_iff_eq.mpr c21
                  clear c21
                  (first | rw [c21b0] | (simp only [i64_w, i32_w]; rw [c21b0]) | skip)
                  have H' := Aside0.mk H
                  clear H
                  go_wp2
                  go_meet
                  case rel => exact ⟨_, ((a0 == 9)), (by first | rfl | (simp; done) | (simp [*]; done)), H', ⟨by have := HJ1.out; have := HJ16.out; first | omega | exact Nat.le_refl _⟩, by repeat (first | exact Drawn0.refl _ | apply Drawn0.step)⟩
                · rw [if_neg c21] at H
                  have c21b0 : (a0 == 9) = false := beq_eq_false_iff_ne.mpr c21
                  have c21b1 : (a0 != 9) = true := bne_iff_ne.mpr c21
                  (first | rw [c21b0] | (simp only [i64_w, i32_w]; rw [c21b0]) | skip)
                  by_cases c22 : a0 = 24
                  · rw [if_pos c22] at H
                    have c22b0 : (a0 == 24) = true := beq_iff_eq.mpr c22
                    have c22b1 : (a0 != 24) = false := bne_eq_false_iff_eq.mpr c22
                    clear c22
                    have H' := Aside0.mk H
                    clear H
                    go_wp2
                    go_meet
                    case rel => exact ⟨_, ((a0 == 24)), (by first | rfl | (simp; done) | (simp [*]; done)), H', ⟨by have := HJ1.out; have := HJ16.out; first | omega | exact Nat.le_refl _⟩, by repeat (first | exact Drawn0.refl _ | apply Drawn0.step)⟩
                  · rw [if_neg c22] at H
                    have c22b0 : (a0 == 24) = false := beq_eq_false_iff_ne.mpr c22
                    have c22b1 : (a0 != 24) = true := bne_iff_ne.mpr c22
                    by_cases c23 : a0 = 25
                    · rw [if_pos c23] at H
                      have c23b0 : (a0 == 25) = true := beq_iff_eq.mpr c23
                      have c23b1 : (a0 != 25) = false := bne_eq_false_iff_eq.mpr c23
                      clear c23
                      have H' := Aside0.mk H
                      clear H
                      go_wp2
                      go_meet
                      case rel => exact ⟨_, ((a0 == 25)), (by first | rfl | (simp; done) | (simp [*]; done)), H', ⟨by have := HJ1.out; have := HJ16.out; first | omega | exact Nat.le_refl _⟩, by repeat (first | exact Drawn0.refl _ | apply Drawn0.step)⟩
                    · rw [if_neg c23] at H
                      have c23b0 : (a0 == 25) = false := beq_eq_false_iff_ne.mpr c23
                      have c23b1 : (a0 != 25) = true := bne_iff_ne.mpr c23
                      have H' := Aside0.mk H
                      clear H
                      go_wp2
                      go_meet
                      case rel => exact ⟨_, ((a0 == 27)), (by first | rfl | (simp; done) | (simp [*]; done)), H', ⟨by have := HJ1.out; have := HJ16.out; first | omega | exact Nat.le_refl _⟩, by repeat (first | exact Drawn0.refl _ | apply Drawn0.step)⟩
              case rest =>
                clear HC20
                try clear c1
                try clear c2
                try clear p2
                try clear c3
                try clear c3b0
                try clear c3b1
                try clear c4
                try clear c4b0
                try clear c4b1
                try clear c5
                try clear c5b0
                try clear c5b1
                try clear c6
                try clear c6b0
                try clear c6b1
                try clear c7
                try clear c7b0
                try clear c7b1
                try clear c8
                try clear c8b0
                try clear c8b1
                try clear c9
                try clear c9b0
                try clear c9b1
                try clear c10
                try clear c10b0
                try clear c10b1
                try clear c11
                try clear c11b0
                try clear c11b1
                try clear c12
                try clear c12b0
                try clear c12b1
                try clear c13
                try clear c13b0
                try clear c13b1
                try clear c14
                try clear c14b0
                try clear c14b1
                try clear c15
                try clear c15b0
                try clear c15b1
                try clear c16
                try clear c18
                try clear c18b0
                try clear c18b1
                try clear c19
                try clear c21
                try clear c21b0
                try clear c21b1
                try clear c22
                try clear c22b0
                try clear c22b1
                try clear c23
                try clear c23b0
                try clear c23b1
                try clear p2
                obtain ⟨kq, x22_19, rfl, HA, HJ19, ⟨mc19, rfl⟩⟩ := hcut
                cases kq with
                | zero => exact absurd HA.out (by simp [grapnelref16_shape.j2])
                | succ kj19 =>
                  have H := HA.out
                  clear HA
                  simp only [grapnelref16_shape.j2] at H
                  by_cases c24 : x22_19 = true
                  · subst c24
                    have H1 : (some (⟨#[49]⟩ : ByteArray)) = some r := by rw [if_pos rfl] at H; exact H
                    clear H
                    have H := H1
                    clear H1
                    obtain rfl := Option.some.inj H
                    go_wp2
                    go_ret
                    exact ⟨by first | rfl | (simp; done) | (simp [*]; done), by repeat (first | exact Drawn0.refl _ | apply Drawn0.step)⟩
                  · replace c24 := Bool.eq_false_iff.mpr c24
                    subst c24
                    have H1 : (if a0 = 15 then (some (⟨#[65, 49]⟩ : ByteArray)) else (if a0 = 16 then (some (⟨#[65, 76]⟩ : ByteArray)) else (if a0 = 26 then (some (⟨#[84, 76]⟩ : ByteArray)) else (if a0 = 6 then (some (⟨#[]⟩ : ByteArray)) else (if a0 = 12 then (some (⟨#[]⟩ : ByteArray)) else (if a0 = 20 then (some (⟨#[]⟩ : ByteArray)) else (if a0 = 21 then (some (⟨#[]⟩ : ByteArray)) else (if a0 = 28 then (some (⟨#[]⟩ : ByteArray)) else (if a0 = 29 then (some (⟨#[]⟩ : ByteArray)) else (if a0 = 30 then (some (⟨#[]⟩ : ByteArray)) else (some (⟨#[63]⟩ : ByteArray)))))))))))) = some r := by rw [if_neg (show ¬ (false = true) by decide)] at H; exact H
                    clear H
                    have H := H1
                    clear H1
                    by_cases c25 : a0 = 15
                    · rw [if_pos c25] at H
                      have c25b0 : (a0 == 15) = true := beq_iff_eq.mpr c25
                      have c25b1 : (a0 != 15) = false := bne_eq_false_iff_eq.mpr c25
                      clear c25
                      obtain rfl := Option.some.inj H
                      go_wp2
                      go_ret
                      exact ⟨by first | rfl | (simp; done) | (simp [*]; done), by repeat (first | exact Drawn0.refl _ | apply Drawn0.step)⟩
                    · rw [if_neg c25] at H
                      have c25b0 : (a0 == 15) = false := beq_eq_false_iff_ne.mpr c25
                      have c25b1 : (a0 != 15) = true := bne_iff_ne.mpr c25
                      by_cases c26 : a0 = 16
                      · rw [if_pos c26] at H
                        have c26b0 : (a0 == 16) = true := beq_iff_eq.mpr c26
                        have c26b1 : (a0 != 16) = false := bne_eq_false_iff_eq.mpr c26
                        clear c26
                        obtain rfl := Option.some.inj H
                        go_wp2
                        go_ret
                        exact ⟨by first | rfl | (simp; done) | (simp [*]; done), by repeat (first | exact Drawn0.refl _ | apply Drawn0.step)⟩
                      · rw [if_neg c26] at H
                        have c26b0 : (a0 == 16) = false := beq_eq_false_iff_ne.mpr c26
                        have c26b1 : (a0 != 16) = true := bne_iff_ne.mpr c26
                        by_cases c27 : a0 = 26
                        · rw [if_pos c27] at H
                          have c27b0 : (a0 == 26) = true := beq_iff_eq.mpr c27
                          have c27b1 : (a0 != 26) = false := bne_eq_false_iff_eq.mpr c27
                          clear c27
                          obtain rfl := Option.some.inj H
                          go_wp2
                          go_ret
                          exact ⟨by first | rfl | (simp; done) | (simp [*]; done), by repeat (first | exact Drawn0.refl _ | apply Drawn0.step)⟩
                        · rw [if_neg c27] at H
                          have c27b0 : (a0 == 26) = false := beq_eq_false_iff_ne.mpr c27
                          have c27b1 : (a0 != 26) = true := bne_iff_ne.mpr c27
                          by_cases c28 : a0 = 6
                          · rw [if_pos c28] at H
                            have c28b0 : (a0 == 6) = true := beq_iff_eq.mpr c28
                            have c28b1 : (a0 != 6) = false := bne_eq_false_iff_eq.mpr c28
                            clear c28
                            obtain rfl := Option.some.inj H
                            go_wp2
                            go_ret
                            exact ⟨by first | rfl | (simp; done) | (simp [*]; done), by repeat (first | exact Drawn0.refl _ | apply Drawn0.step)⟩
                          · rw [if_neg c28] at H
                            have c28b0 : (a0 == 6) = false := beq_eq_false_iff_ne.mpr c28
                            have c28b1 : (a0 != 6) = true := bne_iff_ne.mpr c28
                            by_cases c29 : a0 = 12
                            · rw [if_pos c29] at H
                              have c29b0 : (a0 == 12) = true := beq_iff_eq.mpr c29
                              have c29b1 : (a0 != 12) = false := bne_eq_false_iff_eq.mpr c29
                              clear c29
                              obtain rfl := Option.some.inj H
                              go_wp2
                              go_ret
                              exact ⟨by first | rfl | (simp; done) | (simp [*]; done), by repeat (first | exact Drawn0.refl _ | apply Drawn0.step)⟩
                            · rw [if_neg c29] at H
                              have c29b0 : (a0 == 12) = false := beq_eq_false_iff_ne.mpr c29
                              have c29b1 : (a0 != 12) = true := bne_iff_ne.mpr c29
                              by_cases c30 : a0 = 20
                              · rw [if_pos c30] at H
                                have c30b0 : (a0 == 20) = true := beq_iff_eq.mpr c30
                                have c30b1 : (a0 != 20) = false := bne_eq_false_iff_eq.mpr c30
                                clear c30
                                obtain rfl := Option.some.inj H
                                go_wp2
                                go_ret
                                exact ⟨by first | rfl | (simp; done) | (simp [*]; done), by repeat (first | exact Drawn0.refl _ | apply Drawn0.step)⟩
                              · rw [if_neg c30] at H
                                have c30b0 : (a0 == 20) = false := beq_eq_false_iff_ne.mpr c30
                                have c30b1 : (a0 != 20) = true := bne_iff_ne.mpr c30
                                by_cases c31 : a0 = 21
                                · rw [if_pos c31] at H
                                  have c31b0 : (a0 == 21) = true := beq_iff_eq.mpr c31
                                  have c31b1 : (a0 != 21) = false := bne_eq_false_iff_eq.mpr c31
                                  clear c31
                                  obtain rfl := Option.some.inj H
                                  go_wp2
                                  go_ret
                                  exact ⟨by first | rfl | (simp; done) | (simp [*]; done), by repeat (first | exact Drawn0.refl _ | apply Drawn0.step)⟩
                                · rw [if_neg c31] at H
                                  have c31b0 : (a0 == 21) = false := beq_eq_false_iff_ne.mpr c31
                                  have c31b1 : (a0 != 21) = true := bne_iff_ne.mpr c31
                                  by_cases c32 : a0 = 28
                                  · rw [if_pos c32] at H
                                    have c32b0 : (a0 == 28) = true := beq_iff_eq.mpr c32
                                    have c32b1 : (a0 != 28) = false := bne_eq_false_iff_eq.mpr c32
                                    clear c32
                                    obtain rfl := Option.some.inj H
                                    go_wp2
                                    go_ret
                                    exact ⟨by first | rfl | (simp; done) | (simp [*]; done), by repeat (first | exact Drawn0.refl _ | apply Drawn0.step)⟩
                                  · rw [if_neg c32] at H
                                    have c32b0 : (a0 == 28) = false := beq_eq_false_iff_ne.mpr c32
                                    have c32b1 : (a0 != 28) = true := bne_iff_ne.mpr c32
                                    by_cases c33 : a0 = 29
                                    · rw [if_pos c33] at H
                                      have c33b0 : (a0 == 29) = true := beq_iff_eq.mpr c33
                                      have c33b1 : (a0 != 29) = false := bne_eq_false_iff_eq.mpr c33
                                      clear c33
                                      obtain rfl := Option.some.inj H
                                      go_wp2
                                      go_ret
                                      exact ⟨by first | rfl | (simp; done) | (simp [*]; done), by repeat (first | exact Drawn0.refl _ | apply Drawn0.step)⟩
                                    · rw [if_neg c33] at H
                                      have c33b0 : (a0 == 29) = false := beq_eq_false_iff_ne.mpr c33
                                      have c33b1 : (a0 != 29) = true := bne_iff_ne.mpr c33
                                      by_cases c34 : a0 = 30
                                      · rw [if_pos c34] at H
                                        have c34b0 : (a0 == 30) = true := beq_iff_eq.mpr c34
                                        have c34b1 : (a0 != 30) = false := bne_eq_false_iff_eq.mpr c34
                                        clear c34
                                        obtain rfl := Option.some.inj H
                                        go_wp2
                                        go_ret
                                        exact ⟨by first | rfl | (simp; done) | (simp [*]; done), by repeat (first | exact Drawn0.refl _ | apply Drawn0.step)⟩
                                      · rw [if_neg c34] at H
                                        have c34b0 : (a0 == 30) = false := beq_eq_false_iff_ne.mpr c34
                                        have c34b1 : (a0 != 30) = true := bne_iff_ne.mpr c34
                                        obtain rfl := Option.some.inj H
                                        go_wp2
                                        go_ret
                                        exact ⟨by first | rfl | (simp; done) | (simp [*]; done), by repeat (first | exact Drawn0.refl _ | apply Drawn0.step)⟩

/-! ### grapnelref16_has: function 37 -/
def grapnelref16_has.l0 : Nat → ByteArray → Int → Int → Option (Bool)
  | 0, _, _, _ => none
  | k + 1, x0, x1, x5 => if x5 < (x0.size : Int) then (if 0 ≤ x5 then (if (bt x0 x5) = x1 then (some true) else (grapnelref16_has.l0 k x0 x1 (wrap64 (x5 + 1)))) else (none)) else (some false)
def grapnelref16_has.f (k : Nat) (a0 : ByteArray) (a1 : Int) : Option (Bool) := grapnelref16_has.l0 k a0 a1 0
theorem grapnelref16_has.mono_l : ∀ k, (∀ y0 y1 y2, LeO (grapnelref16_has.l0 k y0 y1 y2) (grapnelref16_has.l0 (k + 1) y0 y1 y2))
  | 0 => fun _ _ _ r h => by simp [grapnelref16_has.l0] at h
  | k + 1 => by
    have ih0 := grapnelref16_has.mono_l k
    · intro y0 y1 y2
      unfold grapnelref16_has.l0
      repeat' first
      | (with_reducible exact ih0 _ _ _)
      | (with_reducible exact LeO.refl _)
      | (with_reducible exact LeO.none _)
      | (with_reducible refine LeO.ite ?_ ?_)
      | (with_reducible refine LeO.bind ?_ (fun _ => ?_))
      | exact ih0 _ _ _
      | exact LeO.none _
      | refine LeO.ite ?_ ?_
      | refine LeO.bind ?_ (fun _ => ?_)
theorem grapnelref16_has.mono : ∀ a0 a1 k, LeO (grapnelref16_has.f k a0 a1) (grapnelref16_has.f (k + 1) a0 a1) := by
  intro a0 a1 k
  have ih0 := grapnelref16_has.mono_l k
  unfold grapnelref16_has.f
  repeat' first
      | (with_reducible exact ih0 _ _ _)
      | (with_reducible exact LeO.refl _)
      | (with_reducible exact LeO.none _)
      | (with_reducible refine LeO.ite ?_ ?_)
      | (with_reducible refine LeO.bind ?_ (fun _ => ?_))
      | exact ih0 _ _ _
      | exact LeO.none _
      | refine LeO.ite ?_ ?_
      | refine LeO.bind ?_ (fun _ => ?_)
set_option maxHeartbeats 8000000 in
set_option maxRecDepth 100000 in
theorem grapnelref16_has.calls (k : Nat) (a0 : ByteArray) (a1 : Int) (r : Bool) (w : World) (h : grapnelref16_has.f k a0 a1 = some r) :
    Calls Try.prog 37 #[.string a0, .int .u8 a1] w fun e w' => e = .returned (.bool r) ∧ Drawn0 w w' := by
  have H : (grapnelref16_has.l0 k a0 a1 0) = some r := h
  clear h
  have H' := Aside0.mk H
  clear H
  go_enter Try.func37, Try.ntmps37
  go_wp2
  go_loopg [5] k (fun kq v5 w' => ∃ (x5_1 : Int), v5 = .int .i64 x5_1 ∧ Aside0 (grapnelref16_has.l0 kq a0 a1 x5_1 = some r) ∧ Aside0 (kq ≤ k) ∧ Drawn0 w w')
  case atStart => exact ⟨(0), (by first | rfl | (simp; done) | (simp [*]; done)), H', ⟨Nat.le_refl _⟩, by repeat (first | exact Drawn0.refl _ | apply Drawn0.step)⟩
  case round =>
    clear H'
    try clear p2
    obtain ⟨x5_1, rfl, HA, HK1, ⟨m1, rfl⟩⟩ := hrel
    cases gk with
    | zero => exact absurd HA.out (by simp [grapnelref16_has.l0])
    | succ k1 =>
      have H := HA.out
      clear HA
      simp only [grapnelref16_has.l0] at H
      by_cases c3 : x5_1 < (a0.size : Int)
      · rw [if_pos c3] at H
        have c3b0 : decide (x5_1 < (a0.size : Int)) = true := decide_eq_true c3
        clear c3
        by_cases c4 : 0 ≤ x5_1
        · rw [if_pos c4] at H
          have c4b0 : decide (0 ≤ x5_1) = true := decide_eq_true c4
          clear c4
          by_cases c6 : (bt a0 x5_1) = a1
          · rw [if_pos c6] at H
            have c6b0 : ((bt a0 x5_1) == a1) = true := beq_iff_eq.mpr c6
            have c6b1 : ((bt a0 x5_1) != a1) = false := bne_eq_false_iff_eq.mpr c6
            clear c6
            obtain rfl := Option.some.inj H
            have p5 : 0 ≤ (x5_1 : Int) := of_decide_eq_true (by first | (with_reducible assumption) | assumption)
            have q5 : x5_1 < (a0.size : Int) := of_decide_eq_true (by first | (with_reducible assumption) | assumption)
            have hx5 := bt_at a0 x5_1
            replace p5 := eq_true p5
            replace q5 := eq_true q5
            go_wp2
            go_ret
            exact ⟨by first | rfl | (simp; done) | (simp [*]; done), by repeat (first | exact Drawn0.refl _ | apply Drawn0.step)⟩
          · rw [if_neg c6] at H
            have c6b0 : ((bt a0 x5_1) == a1) = false := beq_eq_false_iff_ne.mpr c6
            have c6b1 : ((bt a0 x5_1) != a1) = true := bne_iff_ne.mpr c6
            have H' := Aside0.mk H
            clear H
            have p5 : 0 ≤ (x5_1 : Int) := of_decide_eq_true (by first | (with_reducible assumption) | assumption)
            have q5 : x5_1 < (a0.size : Int) := of_decide_eq_true (by first | (with_reducible assumption) | assumption)
            have hx5 := bt_at a0 x5_1
            replace p5 := eq_true p5
            replace q5 := eq_true q5
            go_wp2
            go_roundg k1
            case measure => have := HK1.out; omega
            case rel => exact ⟨(wrap64 (x5_1 + 1)), (by first | rfl | (simp; done) | (simp [*]; done)), H', ⟨by have := HK1.out; omega⟩, by repeat (first | exact Drawn0.refl _ | apply Drawn0.step)⟩
        · rw [if_neg c4] at H
          exact absurd H (by simp)
      · rw [if_neg c3] at H
        have c3b0 : decide (x5_1 < (a0.size : Int)) = false := decide_eq_false c3
        clear c3
        obtain rfl := Option.some.inj H
        go_wp2
        go_ret
        exact ⟨by first | rfl | (simp; done) | (simp [*]; done), by repeat (first | exact Drawn0.refl _ | apply Drawn0.step)⟩

end Go.Proofs.Ytmjafkhkoifopaa.PCodeDecodes
end
section
namespace Go.Proofs.Ytmjafkhkoifopaa.PCodeDecodes
open Go.Proofs.Ytmjafkhkoifopaa Go.RowKit Go.Proofs.YtmjafkhkoifopaaW.PrintWords Go.Proofs.YtmjafkhkoifopaaW.PrintLast Go.Proofs.YtmjafkhkoifopaaW.PrintMore
attribute [local go_sem] max2_int min2_int max_two min_two max_three min_three max_four min_four   -- for this text's walks alone
set_option linter.unusedVariables false
set_option linter.unusedSimpArgs false

/-! ### grapnelref16_bounds: function 45 -/
mutual
def grapnelref16_bounds.j0 : Nat → Int → Bool → Option (Int × Int)
  | 0, _, _ => none
  | k + 1, x6, x13 => if x13 = true then (some (0, 8192)) else (if x6 = 4 then (grapnelref16_bounds.j1 k x6 (x6 == 4)) else (if x6 = 18 then (grapnelref16_bounds.j1 k x6 (x6 == 18)) else (if x6 = 19 then (grapnelref16_bounds.j1 k x6 (x6 == 19)) else (grapnelref16_bounds.j1 k x6 (x6 == 15)))))
def grapnelref16_bounds.j1 : Nat → Int → Bool → Option (Int × Int)
  | 0, _, _ => none
  | k + 1, x6, x18 => if x18 = true then (some (0, 4095)) else (if x6 = 5 then (some ((-100), 100)) else (if x6 = 10 then (grapnelref16_bounds.j2 k x6 (x6 == 10)) else (if x6 = 13 then (grapnelref16_bounds.j2 k x6 (x6 == 13)) else (grapnelref16_bounds.j2 k x6 (x6 == 11)))))
def grapnelref16_bounds.j2 : Nat → Int → Bool → Option (Int × Int)
  | 0, _, _ => none
  | k + 1, x6, x25 => if x25 = true then (some (1, 30)) else (if x6 = 16 then (some (0, 4036)) else (if x6 = 17 then (some (0, 199)) else (if x6 = 23 then (some (1, 12)) else (if x6 = 22 then (some (1, 42)) else (some (0, 0))))))
end
def grapnelref16_bounds.f (k : Nat) (a0 : Int) (a1 : Int) : Option (Int × Int) := if a0 = 1 then (some ((-4611686018427387904), 4611686018427387903)) else (if a0 = 2 then (some (0, wrap64 (a1 - 1))) else (if a0 = 3 then (grapnelref16_bounds.j0 k a0 (a0 == 3)) else (if a0 = 7 then (grapnelref16_bounds.j0 k a0 (a0 == 7)) else (if a0 = 8 then (grapnelref16_bounds.j0 k a0 (a0 == 8)) else (grapnelref16_bounds.j0 k a0 (a0 == 14))))))
theorem grapnelref16_bounds.mono_l : ∀ k, (∀ y0 y1, LeO (grapnelref16_bounds.j0 k y0 y1) (grapnelref16_bounds.j0 (k + 1) y0 y1)) ∧ (∀ y0 y1, LeO (grapnelref16_bounds.j1 k y0 y1) (grapnelref16_bounds.j1 (k + 1) y0 y1)) ∧ (∀ y0 y1, LeO (grapnelref16_bounds.j2 k y0 y1) (grapnelref16_bounds.j2 (k + 1) y0 y1))
  | 0 => ⟨fun _ _ r h => by simp [grapnelref16_bounds.j0] at h, fun _ _ r h => by simp [grapnelref16_bounds.j1] at h, fun _ _ r h => by simp [grapnelref16_bounds.j2] at h⟩
  | k + 1 => by
    obtain ⟨ih0, ih1, ih2⟩ := grapnelref16_bounds.mono_l k
    refine ⟨?_, ?_, ?_⟩
    · intro y0 y1
      unfold grapnelref16_bounds.j0
      repeat' first
      | (with_reducible exact ih0 _ _)
      | (with_reducible exact ih1 _ _)
      | (with_reducible exact ih2 _ _)
      | (with_reducible exact LeO.refl _)
      | (with_reducible exact LeO.none _)
      | (with_reducible refine LeO.ite ?_ ?_)
      | (with_reducible refine LeO.bind ?_ (fun _ => ?_))
      | exact ih0 _ _
      | exact ih1 _ _
      | exact ih2 _ _
      | exact LeO.none _
      | refine LeO.ite ?_ ?_
      | refine LeO.bind ?_ (fun _ => ?_)
    · intro y0 y1
      unfold grapnelref16_bounds.j1
      repeat' first
      | (with_reducible exact ih0 _ _)
      | (with_reducible exact ih1 _ _)
      | (with_reducible exact ih2 _ _)
      | (with_reducible exact LeO.refl _)
      | (with_reducible exact LeO.none _)
      | (with_reducible refine LeO.ite ?_ ?_)
      | (with_reducible refine LeO.bind ?_ (fun _ => ?_))
      | exact ih0 _ _
      | exact ih1 _ _
      | exact ih2 _ _
      | exact LeO.none _
      | refine LeO.ite ?_ ?_
      | refine LeO.bind ?_ (fun _ => ?_)
    · intro y0 y1
      unfold grapnelref16_bounds.j2
      repeat' first
      | (with_reducible exact ih0 _ _)
      | (with_reducible exact ih1 _ _)
      | (with_reducible exact ih2 _ _)
      | (with_reducible exact LeO.refl _)
      | (with_reducible exact LeO.none _)
      | (with_reducible refine LeO.ite ?_ ?_)
      | (with_reducible refine LeO.bind ?_ (fun _ => ?_))
      | exact ih0 _ _
      | exact ih1 _ _
      | exact ih2 _ _
      | exact LeO.none _
      | refine LeO.ite ?_ ?_
      | refine LeO.bind ?_ (fun _ => ?_)
theorem grapnelref16_bounds.mono : ∀ a0 a1 k, LeO (grapnelref16_bounds.f k a0 a1) (grapnelref16_bounds.f (k + 1) a0 a1) := by
  intro a0 a1 k
  obtain ⟨ih0, ih1, ih2⟩ := grapnelref16_bounds.mono_l k
  unfold grapnelref16_bounds.f
  repeat' first
      | (with_reducible exact ih0 _ _)
      | (with_reducible exact ih1 _ _)
      | (with_reducible exact ih2 _ _)
      | (with_reducible exact LeO.refl _)
      | (with_reducible exact LeO.none _)
      | (with_reducible refine LeO.ite ?_ ?_)
      | (with_reducible refine LeO.bind ?_ (fun _ => ?_))
      | exact ih0 _ _
      | exact ih1 _ _
      | exact ih2 _ _
      | exact LeO.none _
      | refine LeO.ite ?_ ?_
      | refine LeO.bind ?_ (fun _ => ?_)
set_option maxHeartbeats 8000000 in
set_option maxRecDepth 100000 in
theorem grapnelref16_bounds.calls (k : Nat) (a0 : Int) (a1 : Int) (r1 : Int) (r2 : Int) (w : World) (h : grapnelref16_bounds.f k a0 a1 = some (r1, r2)) :
    Calls Try.prog 45 #[.int .i64 a0, .int .i64 a1] w fun e w' => e = .returned (.tuple #[.int .i64 r1, .int .i64 r2]) ∧ Drawn0 w w' := by
  have H : (if a0 = 1 then (some ((-4611686018427387904), 4611686018427387903)) else (if a0 = 2 then (some (0, wrap64 (a1 - 1))) else (if a0 = 3 then (grapnelref16_bounds.j0 k a0 (a0 == 3)) else (if a0 = 7 then (grapnelref16_bounds.j0 k a0 (a0 == 7)) else (if a0 = 8 then (grapnelref16_bounds.j0 k a0 (a0 == 8)) else (grapnelref16_bounds.j0 k a0 (a0 == 14))))))) = some (r1, r2) := h
  clear h
  by_cases c3 : a0 = 1
  · rw [if_pos c3] at H
    have c3b0 : (a0 == 1) = true := beq_iff_eq.mpr c3
    have c3b1 : (a0 != 1) = false := bne_eq_false_iff_eq.mpr c3
    clear c3
    simp only [Option.some.injEq, Prod.mk.injEq] at H
    obtain ⟨rfl, rfl⟩ := H
    go_enter Try.func45, Try.ntmps45
    go_wp2
    go_ret2
    exact ⟨by first | rfl | (simp; done) | (simp [*]; done), by repeat (first | exact Drawn0.refl _ | apply Drawn0.step)⟩
  · rw [if_neg c3] at H
    have c3b0 : (a0 == 1) = false := beq_eq_false_iff_ne.mpr c3
    have c3b1 : (a0 != 1) = true := bne_iff_ne.mpr c3
    by_cases c4 : a0 = 2
    · rw [if_pos c4] at H
      have c4b0 : (a0 == 2) = true := beq_iff_eq.mpr c4
      have c4b1 : (a0 != 2) = false := bne_eq_false_iff_eq.mpr c4
      clear c4
      simp only [Option.some.injEq, Prod.mk.injEq] at H
      obtain ⟨rfl, rfl⟩ := H
      go_enter Try.func45, Try.ntmps45
      go_wp2
      go_ret2
      exact ⟨by first | rfl | (simp; done) | (simp [*]; done), by repeat (first | exact Drawn0.refl _ | apply Drawn0.step)⟩
    · rw [if_neg c4] at H
      have c4b0 : (a0 == 2) = false := beq_eq_false_iff_ne.mpr c4
      have c4b1 : (a0 != 2) = true := bne_iff_ne.mpr c4
      have HC5 := Aside0.mk H
      clear H
      go_enter Try.func45, Try.ntmps45
      go_upto_if 13 with (fail)
      go_cut [13] (fun v13 wc => ∃ (kq : Nat) (x13_4 : Bool), v13 = .bool x13_4 ∧ Aside0 (grapnelref16_bounds.j0 kq a0 x13_4 = some (r1, r2)) ∧ Aside0 (kq ≤ k) ∧ Drawn0 w wc)
      case first =>
        have H := HC5.out
        clear HC5
        by_cases c6 : a0 = 3
        · rw [if_pos c6] at H
          have c6b0 : (a0 == 3) = true := beq_iff_eq.mpr c6
          have c6b1 : (a0 != 3) = false := bne_eq_false_iff_eq.mpr c6
          clear c6
          (first | rw [c6b0] | (simp only [i64_w, i32_w]; rw [c6b0]) | skip)
          have H' := Aside0.mk H
          clear H
          go_wp2
          go_meet
          case rel => exact ⟨_, ((a0 == 3)), (by first | rfl | (simp; done) | (simp [*]; done)), H', ⟨by first | omega | exact Nat.le_refl _⟩, by repeat (first | exact Drawn0.refl _ | apply Drawn0.step)⟩
        · rw [if_neg c6] at H
          have c6b0 : (a0 == 3) = false := beq_eq_false_iff_ne.mpr c6
          have c6b1 : (a0 != 3) = true := bne_iff_ne.mpr c6
          (first | rw [c6b0] | (simp only [i64_w, i32_w]; rw [c6b0]) | skip)
          by_cases c7 : a0 = 7
          · rw [if_pos c7] at H
            have c7b0 : (a0 == 7) = true := beq_iff_eq.mpr c7
            have c7b1 : (a0 != 7) = false := bne_eq_false_iff_eq.mpr c7
            clear c7
            have H' := Aside0.mk H
            clear H
            go_wp2
            go_meet
            case rel => exact ⟨_, ((a0 == 7)), (by first | rfl | (simp; done) | (simp [*]; done)), H', ⟨by first | omega | exact Nat.le_refl _⟩, by repeat (first | exact Drawn0.refl _ | apply Drawn0.step)⟩
          · rw [if_neg c7] at H
            have c7b0 : (a0 == 7) = false := beq_eq_false_iff_ne.mpr c7
            have c7b1 : (a0 != 7) = true := bne_iff_ne.mpr c7
            by_cases c8 : a0 = 8
            · rw [if_pos c8] at H
              have c8b0 : (a0 == 8) = true := beq_iff_eq.mpr c8
              have c8b1 : (a0 != 8) = false := bne_eq_false_iff_eq.mpr c8
              clear c8
              have H' := Aside0.mk H
              clear H
              go_wp2
              go_meet
              case rel => exact ⟨_, ((a0 == 8)), (by first | rfl | (simp; done) | (simp [*]; done)), H', ⟨by first | omega | exact Nat.le_refl _⟩, by repeat (first | exact Drawn0.refl _ | apply Drawn0.step)⟩
            · rw [if_neg c8] at H
              have c8b0 : (a0 == 8) = false := beq_eq_false_iff_ne.mpr c8
              have c8b1 : (a0 != 8) = true := bne_iff_ne.mpr c8
              have H' := Aside0.mk H
              clear H
              go_wp2
              go_meet
              case rel => exact ⟨_, ((a0 == 14)), (by first | rfl | (simp; done) | (simp [*]; done)), H', ⟨by first | omega | exact Nat.le_refl _⟩, by repeat (first | exact Drawn0.refl _ | apply Drawn0.step)⟩
      case rest =>
        clear HC5
        try clear p2
        try clear c3
        try clear c3b0
        try clear c3b1
        try clear c4
        try clear c4b0
        try clear c4b1
        try clear c6
        try clear c6b0
        try clear c6b1
        try clear p6
        try clear c7
        try clear c7b0
        try clear c7b1
        try clear c8
        try clear c8b0
        try clear c8b1
        obtain ⟨kq, x13_4, rfl, HA, HJ4, ⟨mc4, rfl⟩⟩ := hcut
        cases kq with
        | zero => exact absurd HA.out (by simp [grapnelref16_bounds.j0])
        | succ kj4 =>
          have H := HA.out
          clear HA
          simp only [grapnelref16_bounds.j0] at H
          by_cases c9 : x13_4 = true
          · subst c9
            have H1 : (some (0, 8192)) = some (r1, r2) := by rw [if_pos rfl] at H; exact H
            clear H
            have H := H1
            clear H1
            simp only [Option.some.injEq, Prod.mk.injEq] at H
            obtain ⟨rfl, rfl⟩ := H
            go_wp2
            go_ret2
            exact ⟨by first | rfl | (simp; done) | (simp [*]; done), by repeat (first | exact Drawn0.refl _ | apply Drawn0.step)⟩
          · replace c9 := Bool.eq_false_iff.mpr c9
            subst c9
            have H1 : (if a0 = 4 then (grapnelref16_bounds.j1 kj4 a0 (a0 == 4)) else (if a0 = 18 then (grapnelref16_bounds.j1 kj4 a0 (a0 == 18)) else (if a0 = 19 then (grapnelref16_bounds.j1 kj4 a0 (a0 == 19)) else (grapnelref16_bounds.j1 kj4 a0 (a0 == 15))))) = some (r1, r2) := by rw [if_neg (show ¬ (false = true) by decide)] at H; exact H
            clear H
            have H := H1
            clear H1
            have HC10 := Aside0.mk H
            clear H
            go_upto_if 18 with (fail)
            go_cut [18] (fun v18 wc => ∃ (kq : Nat) (x18_9 : Bool), v18 = .bool x18_9 ∧ Aside0 (grapnelref16_bounds.j1 kq a0 x18_9 = some (r1, r2)) ∧ Aside0 (kq ≤ kj4) ∧ Drawn0 w wc)
            case first =>
              have H := HC10.out
              clear HC10
              by_cases c11 : a0 = 4
              · rw [if_pos c11] at H
                have c11b0 : (a0 == 4) = true := beq_iff_eq.mpr c11
                have c11b1 : (a0 != 4) = false := bne_eq_false_iff_eq.mpr c11
                clear c11
                (first | rw [c11b0] | (simp only [i64_w, i32_w]; rw [c11b0]) | skip)
                have H' := Aside0.mk H
                clear H
                go_wp2
                go_meet
                case rel => exact ⟨_, ((a0 == 4)), (by first | rfl | (simp; done) | (simp [*]; done)), H', ⟨by have := HJ4.out; first | omega | exact Nat.le_refl _⟩, by repeat (first | exact Drawn0.refl _ | apply Drawn0.step)⟩
              · rw [if_neg c11] at H
                have c11b0 : (a0 == 4) = false := beq_eq_false_iff_ne.mpr c11
                have c11b1 : (a0 != 4) = true := bne_iff_ne.mpr c11
                (first | rw [c11b0] | (simp only [i64_w, i32_w]; rw [c11b0]) | skip)
                by_cases c12 : a0 = 18
                · rw [if_pos c12] at H
                  have c12b0 : (a0 == 18) = true := beq_iff_eq.mpr c12
                  have c12b1 : (a0 != 18) = false := bne_eq_false_iff_eq.mpr c12
                  clear c12
                  have H' := Aside0.mk H
                  clear H
                  go_wp2
                  go_meet
                  case rel => exact ⟨_, ((a0 == 18)), (by first | rfl | (simp; done) | (simp [*]; done)), H', ⟨by have := HJ4.out; first | omega | exact Nat.le_refl _⟩, by repeat (first | exact Drawn0.refl _ | apply Drawn0.step)⟩
                · rw [if_neg c12] at H
                  have c12b0 : (a0 == 18) = false := beq_eq_false_iff_ne.mpr c12
                  have c12b1 : (a0 != 18) = true := bne_iff_ne.mpr c12
                  by_cases c13 : a0 = 19
                  · rw [if_pos c13] at H
                    have c13b0 : (a0 == 19) = true := beq_iff_eq.mpr c13
                    have c13b1 : (a0 != 19) = false := bne_eq_false_iff_eq.mpr c13
                    clear c13
                    have H' := Aside0.mk H
                    clear H
                    go_wp2
                    go_meet
                    case rel => exact ⟨_, ((a0 == 19)), (by first | rfl | (simp; done) | (simp [*]; done)), H', ⟨by have := HJ4.out; first | omega | exact Nat.le_refl _⟩, by repeat (first | exact Drawn0.refl _ | apply Drawn0.step)⟩
                  · rw [if_neg c13] at H
                    have c13b0 : (a0 == 19) = false := beq_eq_false_iff_ne.mpr c13
                    have c13b1 : (a0 != 19) = true := bne_iff_ne.mpr c13
                    have H' := Aside0.mk H
                    clear H
                    go_wp2
                    go_meet
                    case rel => exact ⟨_, ((a0 == 15)), (by first | rfl | (simp; done) | (simp [*]; done)), H', ⟨by have := HJ4.out; first | omega | exact Nat.le_refl _⟩, by repeat (first | exact Drawn0.refl _ | apply Drawn0.step)⟩
            case rest =>
              clear HC10
              try clear c1
              try clear p2
              try clear c3
              try clear c3b0
              try clear c3b1
              try clear c4
              try clear c4b0
              try clear c4b1
              try clear c6
              try clear c6b0
              try clear c6b1
              try clear p6
              try clear c7
              try clear c7b0
              try clear c7b1
              try clear c8
              try clear c8b0
              try clear c8b1
              try clear c9
              try clear c11
              try clear c11b0
              try clear c11b1
              try clear c12
              try clear c12b0
              try clear c12b1
              try clear c13
              try clear c13b0
              try clear c13b1
              try clear p2
              try clear p6
              obtain ⟨kq, x18_9, rfl, HA, HJ9, ⟨mc9, rfl⟩⟩ := hcut
              cases kq with
              | zero => exact absurd HA.out (by simp [grapnelref16_bounds.j1])
              | succ kj9 =>
                have H := HA.out
                clear HA
                simp only [grapnelref16_bounds.j1] at H
                by_cases c14 : x18_9 = true
                · subst c14
                  have H1 : (some (0, 4095)) = some (r1, r2) := by rw [if_pos rfl] at H; exact H
                  clear H
                  have H := H1
                  clear H1
                  simp only [Option.some.injEq, Prod.mk.injEq] at H
                  obtain ⟨rfl, rfl⟩ := H
                  go_wp2
                  go_ret2
                  exact ⟨by first | rfl | (simp; done) | (simp [*]; done), by repeat (first | exact Drawn0.refl _ | apply Drawn0.step)⟩
                · replace c14 := Bool.eq_false_iff.mpr c14
                  subst c14
                  have H1 : (if a0 = 5 then (some ((-100), 100)) else (if a0 = 10 then (grapnelref16_bounds.j2 kj9 a0 (a0 == 10)) else (if a0 = 13 then (grapnelref16_bounds.j2 kj9 a0 (a0 == 13)) else (grapnelref16_bounds.j2 kj9 a0 (a0 == 11))))) = some (r1, r2) := by rw [if_neg (show ¬ (false = true) by decide)] at H; exact H
                  clear H
                  have H := H1
                  clear H1
                  by_cases c15 : a0 = 5
                  · rw [if_pos c15] at H
                    have c15b0 : (a0 == 5) = true := beq_iff_eq.mpr c15
                    have c15b1 : (a0 != 5) = false := bne_eq_false_iff_eq.mpr c15
                    clear c15
                    simp only [Option.some.injEq, Prod.mk.injEq] at H
                    obtain ⟨rfl, rfl⟩ := H
                    go_wp2
                    go_ret2
                    exact ⟨by first | rfl | (simp; done) | (simp [*]; done), by repeat (first | exact Drawn0.refl _ | apply Drawn0.step)⟩
                  · rw [if_neg c15] at H
                    have c15b0 : (a0 == 5) = false := beq_eq_false_iff_ne.mpr c15
                    have c15b1 : (a0 != 5) = true := bne_iff_ne.mpr c15
                    have HC16 := Aside0.mk H
                    clear H
                    go_upto_if 25 with (fail)
                    go_cut [25] (fun v25 wc => ∃ (kq : Nat) (x25_15 : Bool), v25 = .bool x25_15 ∧ Aside0 (grapnelref16_bounds.j2 kq a0 x25_15 = some (r1, r2)) ∧ Aside0 (kq ≤ kj9) ∧ Drawn0 w wc)
                    case first =>
                      have H := HC16.out
                      clear HC16
                      by_cases c17 : a0 = 10
                      · rw [if_pos c17] at H
                        have c17b0 : (a0 == 10) = true := beq_iff_eq.mpr c17
                        have c17b1 : (a0 != 10) = false := bne_eq_false_iff_eq.mpr c17
                        clear c17
                        (first | rw [c17b0] | (simp only [i64_w, i32_w]; rw [c17b0]) | skip)
                        have H' := Aside0.mk H
                        clear H
                        go_wp2
                        go_meet
                        case rel => exact ⟨_, ((a0 == 10)), (by first | rfl | (simp; done) | (simp [*]; done)), H', ⟨by have := HJ4.out; have := HJ9.out; first | omega | exact Nat.le_refl _⟩, by repeat (first | exact Drawn0.refl _ | apply Drawn0.step)⟩
                      · rw [if_neg c17] at H
                        have c17b0 : (a0 == 10) = false := beq_eq_false_iff_ne.mpr c17
                        have c17b1 : (a0 != 10) = true := bne_iff_ne.mpr c17
                        (first | rw [c17b0] | (simp only [i64_w, i32_w]; rw [c17b0]) | skip)
                        by_cases c18 : a0 = 13
                        · rw [if_pos c18] at H
                          have c18b0 : (a0 == 13) = true := beq_iff_eq.mpr c18
                          have c18b1 : (a0 != 13) = false := bne_eq_false_iff_eq.mpr c18
                          clear c18
                          have H' := Aside0.mk H
                          clear H
                          go_wp2
                          go_meet
                          case rel => exact ⟨_, ((a0 == 13)), (by first | rfl | (simp; done) | (simp [*]; done)), H', ⟨by have := HJ4.out; have := HJ9.out; first | omega | exact Nat.le_refl _⟩, by repeat (first | exact Drawn0.refl _ | apply Drawn0.step)⟩
                        · rw [if_neg c18] at H
                          have c18b0 : (a0 == 13) = false := beq_eq_false_iff_ne.mpr c18
                          have c18b1 : (a0 != 13) = true := bne_iff_ne.mpr c18
                          have H' := Aside0.mk H
                          clear H
                          go_wp2
                          go_meet
                          case rel => exact ⟨_, ((a0 == 11)), (by first | rfl | (simp; done) | (simp [*]; done)), H', ⟨by have := HJ4.out; have := HJ9.out; first | omega | exact Nat.le_refl _⟩, by repeat (first | exact Drawn0.refl _ | apply Drawn0.step)⟩
                    case rest =>
                      clear HC16
                      try clear c1
                      try clear p2
                      try clear c3
                      try clear c3b0
                      try clear c3b1
                      try clear c4
                      try clear c4b0
                      try clear c4b1
                      try clear c6
                      try clear c6b0
                      try clear c6b1
                      try clear p6
                      try clear c7
                      try clear c7b0
                      try clear c7b1
                      try clear c8
                      try clear c8b0
                      try clear c8b1
                      try clear c9
                      try clear c11
                      try clear c11b0
                      try clear c11b1
                      try clear c12
                      try clear c12b0
                      try clear c12b1
                      try clear c13
                      try clear c13b0
                      try clear c13b1
                      try clear c14
                      try clear c15
                      try clear c15b0
                      try clear c15b1
                      try clear c17
                      try clear c17b0
                      try clear c17b1
                      try clear c18
                      try clear c18b0
                      try clear c18b1
                      try clear p2
                      try clear p6
                      obtain ⟨kq, x25_15, rfl, HA, HJ15, ⟨mc15, rfl⟩⟩ := hcut
                      cases kq with
                      | zero => exact absurd HA.out (by simp [grapnelref16_bounds.j2])
                      | succ kj15 =>
                        have H := HA.out
                        clear HA
                        simp only [grapnelref16_bounds.j2] at H
                        by_cases c19 : x25_15 = true
                        · subst c19
                          have H1 : (some (1, 30)) = some (r1, r2) := by rw [if_pos rfl] at H; exact H
                          clear H
                          have H := H1
                          clear H1
                          simp only [Option.some.injEq, Prod.mk.injEq] at H
                          obtain ⟨rfl, rfl⟩ := H
                          go_wp2
                          go_ret2
                          exact ⟨by first | rfl | (simp; done) | (simp [*]; done), by repeat (first | exact Drawn0.refl _ | apply Drawn0.step)⟩
                        · replace c19 := Bool.eq_false_iff.mpr c19
                          subst c19
                          have H1 : (if a0 = 16 then (some (0, 4036)) else (if a0 = 17 then (some (0, 199)) else (if a0 = 23 then (some (1, 12)) else (if a0 = 22 then (some (1, 42)) else (some (0, 0)))))) = some (r1, r2) := by rw [if_neg (show ¬ (false = true) by decide)] at H; exact H
                          clear H
                          have H := H1
                          clear H1
                          by_cases c20 : a0 = 16
                          · rw [if_pos c20] at H
                            have c20b0 : (a0 == 16) = true := beq_iff_eq.mpr c20
                            have c20b1 : (a0 != 16) = false := bne_eq_false_iff_eq.mpr c20
                            clear c20
                            simp only [Option.some.injEq, Prod.mk.injEq] at H
                            obtain ⟨rfl, rfl⟩ := H
                            go_wp2
                            go_ret2
                            exact ⟨by first | rfl | (simp; done) | (simp [*]; done), by repeat (first | exact Drawn0.refl _ | apply Drawn0.step)⟩
                          · rw [if_neg c20] at H
                            have c20b0 : (a0 == 16) = false := beq_eq_false_iff_ne.mpr c20
                            have c20b1 : (a0 != 16) = true := bne_iff_ne.mpr c20
                            by_cases c21 : a0 = 17
                            · rw [if_pos c21] at H
                              have c21b0 : (a0 == 17) = true := beq_iff_eq.mpr c21
                              have c21b1 : (a0 != 17) = false := bne_eq_false_iff_eq.mpr c21
                              clear c21
                              simp only [Option.some.injEq, Prod.mk.injEq] at H
                              obtain ⟨rfl, rfl⟩ := H
                              go_wp2
                              go_ret2
                              exact ⟨by first | rfl | (simp; done) | (simp [*]; done), by repeat (first | exact Drawn0.refl _ | apply Drawn0.step)⟩
                            · rw [if_neg c21] at H
                              have c21b0 : (a0 == 17) = false := beq_eq_false_iff_ne.mpr c21
                              have c21b1 : (a0 != 17) = true := bne_iff_ne.mpr c21
                              by_cases c22 : a0 = 23
                              · rw [if_pos c22] at H
                                have c22b0 : (a0 == 23) = true := beq_iff_eq.mpr c22
                                have c22b1 : (a0 != 23) = false := bne_eq_false_iff_eq.mpr c22
                                clear c22
                                simp only [Option.some.injEq, Prod.mk.injEq] at H
                                obtain ⟨rfl, rfl⟩ := H
                                go_wp2
                                go_ret2
                                exact ⟨by first | rfl | (simp; done) | (simp [*]; done), by repeat (first | exact Drawn0.refl _ | apply Drawn0.step)⟩
                              · rw [if_neg c22] at H
                                have c22b0 : (a0 == 23) = false := beq_eq_false_iff_ne.mpr c22
                                have c22b1 : (a0 != 23) = true := bne_iff_ne.mpr c22
                                by_cases c23 : a0 = 22
                                · rw [if_pos c23] at H
                                  have c23b0 : (a0 == 22) = true := beq_iff_eq.mpr c23
                                  have c23b1 : (a0 != 22) = false := bne_eq_false_iff_eq.mpr c23
                                  clear c23
                                  simp only [Option.some.injEq, Prod.mk.injEq] at H
                                  obtain ⟨rfl, rfl⟩ := H
                                  go_wp2
                                  go_ret2
                                  exact ⟨by first | rfl | (simp; done) | (simp [*]; done), by repeat (first | exact Drawn0.refl _ | apply Drawn0.step)⟩
                                · rw [if_neg c23] at H
                                  have c23b0 : (a0 == 22) = false := beq_eq_false_iff_ne.mpr c23
                                  have c23b1 : (a0 != 22) = true := bne_iff_ne.mpr c23
                                  simp only [Option.some.injEq, Prod.mk.injEq] at H
                                  obtain ⟨rfl, rfl⟩ := H
                                  go_wp2
                                  go_ret2
                                  exact ⟨by first | rfl | (simp; done) | (simp [*]; done), by repeat (first | exact Drawn0.refl _ | apply Drawn0.step)⟩

/-! ### grapnelref16_rises: function 46 -/
def grapnelref16_rises.l0 : Nat → List Int → Int → Option (Bool)
  | 0, _, _ => none
  | k + 1, x0, x3 => if x3 < (x0.length : Int) then (if 0 ≤ x3 then (if 0 ≤ (wrap64 (x3 - 1)) then (if (wrap64 (x3 - 1)) < (x0.length : Int) then (if (rd x0 x3) ≤ (rd x0 (wrap64 (x3 - 1))) then (some false) else (grapnelref16_rises.l0 k x0 (wrap64 (x3 + 1)))) else (none)) else (none)) else (none)) else (some true)
def grapnelref16_rises.f (k : Nat) (l0 : List Int) : Option (Bool) := grapnelref16_rises.l0 k l0 1
theorem grapnelref16_rises.mono_l : ∀ k, (∀ y0 y1, LeO (grapnelref16_rises.l0 k y0 y1) (grapnelref16_rises.l0 (k + 1) y0 y1))
  | 0 => fun _ _ r h => by simp [grapnelref16_rises.l0] at h
  | k + 1 => by
    have ih0 := grapnelref16_rises.mono_l k
    · intro y0 y1
      unfold grapnelref16_rises.l0
      repeat' first
      | (with_reducible exact ih0 _ _)
      | (with_reducible exact LeO.refl _)
      | (with_reducible exact LeO.none _)
      | (with_reducible refine LeO.ite ?_ ?_)
      | (with_reducible refine LeO.bind ?_ (fun _ => ?_))
      | exact ih0 _ _
      | exact LeO.none _
      | refine LeO.ite ?_ ?_
      | refine LeO.bind ?_ (fun _ => ?_)
theorem grapnelref16_rises.mono : ∀ a0 k, LeO (grapnelref16_rises.f k a0) (grapnelref16_rises.f (k + 1) a0) := by
  intro a0 k
  have ih0 := grapnelref16_rises.mono_l k
  unfold grapnelref16_rises.f
  repeat' first
      | (with_reducible exact ih0 _ _)
      | (with_reducible exact LeO.refl _)
      | (with_reducible exact LeO.none _)
      | (with_reducible refine LeO.ite ?_ ?_)
      | (with_reducible refine LeO.bind ?_ (fun _ => ?_))
      | exact ih0 _ _
      | exact LeO.none _
      | refine LeO.ite ?_ ?_
      | refine LeO.bind ?_ (fun _ => ?_)
set_option maxHeartbeats 8000000 in
set_option maxRecDepth 100000 in
theorem grapnelref16_rises.calls (k : Nat) (A0 : Option Addr) (c0 : Nat) (l0 : List Int) (r : Bool) (w : World) (hr0 : Kd.C (Kd.int .i64) w A0 l0.length l0) (hc0 : l0.length ≤ c0) (h : grapnelref16_rises.f k l0 = some r) :
    Calls Try.prog 46 #[.slice A0 l0.length c0] w fun e w' => e = .returned (.bool r) ∧ Drawn0 w w' := by
  have HR0 := Aside0.mk hr0
  have HC0 := Aside0.mk hc0
  clear hr0 hc0
  have H : (grapnelref16_rises.l0 k l0 1) = some r := h
  clear h
  have H' := Aside0.mk H
  clear H
  go_enter Try.func46, Try.ntmps46
  go_wp2
  repeat (go_quiet (fail); try go_wp2)
  go_loopg [3] k (fun kq v3 w' => ∃ (x3_1 : Int), v3 = .int .i64 x3_1 ∧ Aside0 (grapnelref16_rises.l0 kq l0 x3_1 = some r) ∧ Aside0 (kq ≤ k) ∧ Drawn0 w w')
  case atStart => exact ⟨(1), (by first | rfl | (simp; done) | (simp [*]; done)), H', ⟨Nat.le_refl _⟩, by repeat (first | exact Drawn0.refl _ | apply Drawn0.step)⟩
  case round =>
    clear H'
    obtain ⟨x3_1, rfl, HA, HK1, ⟨m1, rfl⟩⟩ := hrel
    cases gk with
    | zero => exact absurd HA.out (by simp [grapnelref16_rises.l0])
    | succ k1 =>
      have H := HA.out
      clear HA
      simp only [grapnelref16_rises.l0] at H
      by_cases c2 : x3_1 < (l0.length : Int)
      · rw [if_pos c2] at H
        have c2b0 : decide (x3_1 < (l0.length : Int)) = true := decide_eq_true c2
        clear c2
        by_cases c3 : 0 ≤ x3_1
        · rw [if_pos c3] at H
          have c3b0 : decide (0 ≤ x3_1) = true := decide_eq_true c3
          clear c3
          obtain ⟨ji4, hji4⟩ : ∃ j_ : Int, (wrap64 (x3_1 - 1)) = j_ := ⟨_, rfl⟩
          replace H : (if 0 ≤ (ji4) then (if (ji4) < (l0.length : Int) then (if (rd l0 x3_1) ≤ (rd l0 (ji4)) then (some false) else (grapnelref16_rises.l0 k1 l0 (wrap64 (x3_1 + 1)))) else (none)) else (none)) = some r := by first | (rw [hji4] at H; exact H) | (simp only [hji4] at H ⊢; exact H)
          have hji4w : (IntKind.i64.wrap (x3_1 - 1)) = ji4 := (i64_w _).trans hji4
          by_cases c5 : 0 ≤ (ji4)
          · rw [if_pos c5] at H
            have c5b0 : decide (0 ≤ (ji4)) = true := decide_eq_true c5
            clear c5
            by_cases c6 : (ji4) < (l0.length : Int)
            · rw [if_pos c6] at H
              have c6b0 : decide ((ji4) < (l0.length : Int)) = true := decide_eq_true c6
              clear c6
              by_cases c7 : (rd l0 x3_1) ≤ (rd l0 (ji4))
              · rw [if_pos c7] at H
                have c7b0 : decide ((rd l0 x3_1) ≤ (rd l0 (ji4))) = true := decide_eq_true c7
                clear c7
                obtain rfl := Option.some.inj H
                have p195 : 0 ≤ (x3_1 : Int) := of_decide_eq_true (by first | (with_reducible assumption) | assumption)
                have q195 : x3_1 < (l0.length : Int) := of_decide_eq_true (by first | (with_reducible assumption) | assumption)
                obtain ⟨ad195, e195, hx195_0⟩ := Kd.at_int HR0.out x3_1 p195 q195
                cases e195
                replace p195 := eq_true p195
                replace q195 := eq_true q195
                have p196 : 0 ≤ ((ji4) : Int) := of_decide_eq_true (by first | (with_reducible assumption) | assumption)
                have q196 : (ji4) < (l0.length : Int) := of_decide_eq_true (by first | (with_reducible assumption) | assumption)
                obtain ⟨ad196, e196, hx196_0⟩ := Kd.at_int HR0.out (ji4) p196 q196
                obtain rfl : ad195 = ad196 := (by injection e196)
                replace p196 := eq_true p196
                replace q196 := eq_true q196
                go_wp2
                repeat (go_quiet (fail); try go_wp2)
                go_ret
                exact ⟨by first | rfl | (simp; done) | (simp only [← hji4] <;> (first | rfl | simp)) | (simp [*]; done), by repeat (first | exact Drawn0.refl _ | apply Drawn0.step)⟩
              · rw [if_neg c7] at H
                have c7b0 : decide ((rd l0 x3_1) ≤ (rd l0 (ji4))) = false := decide_eq_false c7
                clear c7
                have H' := Aside0.mk H
                clear H
                have p195 : 0 ≤ (x3_1 : Int) := of_decide_eq_true (by first | (with_reducible assumption) | assumption)
                have q195 : x3_1 < (l0.length : Int) := of_decide_eq_true (by first | (with_reducible assumption) | assumption)
                obtain ⟨ad195, e195, hx195_0⟩ := Kd.at_int HR0.out x3_1 p195 q195
                cases e195
                replace p195 := eq_true p195
                replace q195 := eq_true q195
                have p196 : 0 ≤ ((ji4) : Int) := of_decide_eq_true (by first | (with_reducible assumption) | assumption)
                have q196 : (ji4) < (l0.length : Int) := of_decide_eq_true (by first | (with_reducible assumption) | assumption)
                obtain ⟨ad196, e196, hx196_0⟩ := Kd.at_int HR0.out (ji4) p196 q196
                obtain rfl : ad195 = ad196 := (by injection e196)
                replace p196 := eq_true p196
                replace q196 := eq_true q196
                go_wp2
                repeat (go_quiet (fail); try go_wp2)
                go_roundg k1
                case measure => have := HK1.out; omega
                case rel => exact ⟨(wrap64 (x3_1 + 1)), (by first | rfl | (simp; done) | (simp [*]; done)), H', ⟨by have := HK1.out; omega⟩, by repeat (first | exact Drawn0.refl _ | apply Drawn0.step)⟩
            · rw [if_neg c6] at H
              exact absurd H (by simp)
          · rw [if_neg c5] at H
            exact absurd H (by simp)
        · rw [if_neg c3] at H
          exact absurd H (by simp)
      · rw [if_neg c2] at H
        have c2b0 : decide (x3_1 < (l0.length : Int)) = false := decide_eq_false c2
        clear c2
        obtain rfl := Option.some.inj H
        go_wp2
        repeat (go_quiet (fail); try go_wp2)
        go_ret
        exact ⟨by first | rfl | (simp; done) | (simp [*]; done), by repeat (first | exact Drawn0.refl _ | apply Drawn0.step)⟩

-- NOT PRINTED: function 24 (grapnelref16_ins)

-- NOT PRINTED: function 12 (grapnelref16_May)

/-! ### grapnelref16_num: function 47 -/
def grapnelref16_num.l0 : Nat → List Int → Int → Int → Option (List Int)
  | 0, _, _, _ => none
  | k + 1, x0, x5, x6 => if x6 < 8 then (if x0.length < 140737488355328 then (grapnelref16_num.l0 k (x0 ++ [(Int.tmod x5 256) % 256]) (IntKind.u64.wrap (Int.tdiv x5 256)) (wrap64 (x6 + 1))) else (none)) else (some x0)
def grapnelref16_num.f (k : Nat) (l0 : List Int) (a1 : Int) : Option (List Int) := grapnelref16_num.l0 k l0 (IntKind.u64.wrap (a1)) 0
theorem grapnelref16_num.mono_l : ∀ k, (∀ y0 y1 y2, LeO (grapnelref16_num.l0 k y0 y1 y2) (grapnelref16_num.l0 (k + 1) y0 y1 y2))
  | 0 => fun _ _ _ r h => by simp [grapnelref16_num.l0] at h
  | k + 1 => by
    have ih0 := grapnelref16_num.mono_l k
    · intro y0 y1 y2
      unfold grapnelref16_num.l0
      repeat' first
      | (with_reducible exact ih0 _ _ _)
      | (with_reducible exact LeO.refl _)
      | (with_reducible exact LeO.none _)
      | (with_reducible refine LeO.ite ?_ ?_)
      | (with_reducible refine LeO.bind ?_ (fun _ => ?_))
      | exact ih0 _ _ _
      | exact LeO.none _
      | refine LeO.ite ?_ ?_
      | refine LeO.bind ?_ (fun _ => ?_)
theorem grapnelref16_num.mono : ∀ a0 a1 k, LeO (grapnelref16_num.f k a0 a1) (grapnelref16_num.f (k + 1) a0 a1) := by
  intro a0 a1 k
  have ih0 := grapnelref16_num.mono_l k
  unfold grapnelref16_num.f
  repeat' first
      | (with_reducible exact ih0 _ _ _)
      | (with_reducible exact LeO.refl _)
      | (with_reducible exact LeO.none _)
      | (with_reducible refine LeO.ite ?_ ?_)
      | (with_reducible refine LeO.bind ?_ (fun _ => ?_))
      | exact ih0 _ _ _
      | exact LeO.none _
      | refine LeO.ite ?_ ?_
      | refine LeO.bind ?_ (fun _ => ?_)
set_option maxHeartbeats 8000000 in
set_option maxRecDepth 100000 in
theorem grapnelref16_num.calls (k : Nat) (P0_ : Nat → Prop) (u9000_ : Value) (l0 : List Int) (a1 : Int) (r : List Int) (w0 w : World) (hB : Below w0.heap.size w0 w) (ho0 : Kd.R (Kd.int .u8) 5 w w0.heap.size P0_ u9000_ l0) (h : grapnelref16_num.f k l0 a1 = some r) :
    Calls Try.prog 47 #[u9000_, .int .i64 a1] w fun e w' => ∃ v0_ : Value, e = .returned (v0_) ∧ Kd.R (Kd.int .u8) 5 w' w0.heap.size (fun k_ => (P0_ k_ ∨ w.heap.size ≤ k_)) v0_ r ∧ Below w0.heap.size w0 w' ∧ Kept w w' (fun k_ => P0_ k_) := by
  have HO0 := Aside0.mk (show Kd.R (Kd.int .u8) 5 w w0.heap.size (fun k_ => (P0_ k_ ∨ w.heap.size ≤ k_)) u9000_ l0 from Kd.R_mono ho0 (fun k_ hk => (.inl hk)))
  have HK := Aside0.mk (Kept.refl w (fun k_ => P0_ k_))
  have HW0 := Aside0.mk hB.size
  have HB := Aside0.mk hB
  clear hB
  have H : (grapnelref16_num.l0 k l0 (IntKind.u64.wrap (a1)) 0) = some r := h
  clear h
  have H' := Aside0.mk H
  clear H
  go_enter Try.func47, Try.ntmps47
  go_wp2
  go_loopg [0, 5, 6] k (fun kq v0 v5 v6 w' => ∃ (x0_1 : List Int) (x5_1 : Int) (x6_1 : Int), v5 = .int .u64 x5_1 ∧ v6 = .int .i64 x6_1 ∧ Aside0 (grapnelref16_num.l0 kq x0_1 x5_1 x6_1 = some r) ∧ Aside0 (kq ≤ k) ∧ Aside0 (Kd.R (Kd.int .u8) 5 w' w0.heap.size (fun k_ => (P0_ k_ ∨ w.heap.size ≤ k_)) v0 x0_1) ∧ Aside0 (Kept w w' (fun k_ => P0_ k_)) ∧ Aside0 (Below w0.heap.size w0 w'))
  case atStart => exact ⟨(l0), (IntKind.u64.wrap (a1)), (0), (by first | rfl | (simp; done) | (simp [*]; done)), (by first | rfl | (simp; done) | (simp [*]; done)), H', ⟨Nat.le_refl _⟩, ⟨by (with_reducible repeat (first | apply Kd.R_alloc | apply Kd.R_drewN | apply Kd.R_drew)); exact HO0.out⟩, ⟨by repeat (first | (with_reducible first | exact HK.out | apply Kept.alloc | apply Kept.drewN | apply Kept.drew) | exact HK.out)⟩, ⟨by repeat (first | (with_reducible first | exact HB.out | apply below_alloc | apply pw_below_drewN | apply below_drew1) | exact HB.out)⟩⟩
  case round =>
    clear H'
    try clear p2
    obtain ⟨x0_1, x5_1, x6_1, rfl, rfl, HA, HK1, HO_0, HK, HB⟩ := hrel
    cases gk with
    | zero => exact absurd HA.out (by simp [grapnelref16_num.l0])
    | succ k1 =>
      have H := HA.out
      clear HA
      simp only [grapnelref16_num.l0] at H
      by_cases c3 : x6_1 < 8
      · rw [if_pos c3] at H
        have c3b0 : decide (x6_1 < 8) = true := decide_eq_true c3
        clear c3
        by_cases c4 : x0_1.length < 140737488355328
        · rw [if_pos c4] at H
          have LMc4 := Aside0.mk c4
          clear c4
          obtain ⟨y218, hy218⟩ : ∃ y_ : List Int, y_ = (x0_1 ++ [(Int.tmod x5_1 256) % 256]) := ⟨_, rfl⟩
          replace H : (grapnelref16_num.l0 k1 y218 (IntKind.u64.wrap (Int.tdiv x5_1 256)) (wrap64 (x6_1 + 1))) = some r := by first | (rw [hy218]; with_reducible exact H) | (have H2_ := (Option.bind_some _ _).symm.trans H; rw [hy218]; with_reducible exact H2_) | (have H2_ := (Option.bind_some _ _).symm.trans H; with_reducible exact H2_) | with_reducible exact H | (rw [hy218]; exact H) | exact H
          have Ny218 := Aside0.mk hy218
          clear hy218
          have H' := Aside0.mk H
          clear H
          go_wp2_with (first | ((with_reducible refine gate_builtin (b := .append) (xs := #[.tmp 13, .tmp 17]) rfl ?_); at_builtin; refine Kd.R_append (Kd.int .u8) (w0 := w0) w0.heap.size rfl (.tmp 13) (.tmp 17) 29 5 (.int .u8 0) 1 rfl Try.underlying29 info5 rfl (by decide) (by omega) u0 x0_1 ((Int.tmod x5_1 256) % 256) [.int .u8 ((Int.tmod x5_1 256) % 256)] (fun k_ => (P0_ k_ ∨ w.heap.size ≤ k_)) (fun _ => False) rfl rfl ?aP (fun _ hk => hk.elim) ?aF ?aO ?aB ?aS ?aL ?_; (case aP => exact rfl); (case aB => exact (by repeat (first | (with_reducible first | exact HB.out | apply below_alloc | apply pw_below_drewN | apply below_drew1) | exact HB.out))); (case aF => exact (fun k_ hk => (.inr (Nat.le_trans (by first | exact HK.out.1 | exact (show Kept w _ (fun k_ => P0_ k_) from by repeat (first | (with_reducible first | exact HK.out | apply Kept.alloc | apply Kept.drewN | apply Kept.drew) | exact HK.out)).1) hk)))); (case aO => exact (by (with_reducible repeat (first | apply Kd.R_alloc | apply Kd.R_drewN | apply Kd.R_drew)); exact HO_0.out)); (case aS => exact (below_size (by repeat (first | (with_reducible first | exact HB.out | apply below_alloc | apply pw_below_drewN | apply below_drew1) | exact HB.out)))); (case aL => have := LMc4.out; omega); intro v219 w5 ho hb hg hat; rw [← Ny218.out] at ho; have n0_ := Aside0.mk (hb); have n1_ := Aside0.mk (Kept.of_grown (S := (fun k_ => P0_ k_)) hg (by repeat (first | (with_reducible first | exact HK.out | apply Kept.alloc | apply Kept.drewN | apply Kept.drew) | exact HK.out)) (fun k_ e_ => (HO_0.out.1 k_ e_))); have n2_ := Aside0.mk (ho); clear HB; clear HK; clear HO_0; have HB := n0_; have HK := n1_; have HO220 := n2_; clear n0_ n1_ n2_; clear ho hb hg hat))
          go_roundg k1
          case measure => have := HK1.out; omega
          case rel => exact ⟨(y218), (IntKind.u64.wrap (Int.tdiv x5_1 256)), (wrap64 (x6_1 + 1)), (by first | rfl | (simp; done) | (simp [*]; done)), (by first | rfl | (simp; done) | (simp [*]; done)), H', ⟨by have := HK1.out; omega⟩, ⟨by (with_reducible repeat (first | apply Kd.R_alloc | apply Kd.R_drewN | apply Kd.R_drew)); exact HO220.out⟩, ⟨by repeat (first | (with_reducible first | exact HK.out | apply Kept.alloc | apply Kept.drewN | apply Kept.drew) | exact HK.out)⟩, ⟨by repeat (first | (with_reducible first | exact HB.out | apply below_alloc | apply pw_below_drewN | apply below_drew1) | exact HB.out)⟩⟩
        · rw [if_neg c4] at H
          exact absurd H (by simp)
      · rw [if_neg c3] at H
        have c3b0 : decide (x6_1 < 8) = false := decide_eq_false c3
        clear c3
        obtain rfl := Option.some.inj H
        go_wp2
        go_ret
        exact ⟨_, by first | rfl | (simp [errW_none, errW_some] <;> rfl) | (simp [*, errW_none, errW_some] <;> rfl), by (with_reducible repeat (first | apply Kd.R_alloc | apply Kd.R_drewN | apply Kd.R_drew)); exact HO_0.out, by repeat (first | (with_reducible first | exact HB.out | apply below_alloc | apply pw_below_drewN | apply below_drew1) | exact HB.out), by repeat (first | (with_reducible first | exact HK.out | apply Kept.alloc | apply Kept.drewN | apply Kept.drew) | exact HK.out)⟩

/-! ### grapnelref16_str: function 48 -/
def grapnelref16_str.f (k : Nat) (l0 : List Int) (a1 : ByteArray) : Option (List Int) := (grapnelref16_num.f k l0 (a1.size : Int)).bind fun t221 => (if t221.length + a1.size < 140737488355328 then (some (t221 ++ bytesOf a1)) else (none))
theorem grapnelref16_str.mono : ∀ a0 a1 k, LeO (grapnelref16_str.f k a0 a1) (grapnelref16_str.f (k + 1) a0 a1) := by
  intro a0 a1 k
  unfold grapnelref16_str.f
  repeat' first
      | (with_reducible exact grapnelref16_num.mono _ _ _)
      | (with_reducible exact LeO.refl _)
      | (with_reducible exact LeO.none _)
      | (with_reducible refine LeO.ite ?_ ?_)
      | (with_reducible refine LeO.bind ?_ (fun _ => ?_))
      | exact grapnelref16_num.mono _ _ _
      | exact LeO.none _
      | refine LeO.ite ?_ ?_
      | refine LeO.bind ?_ (fun _ => ?_)
set_option maxHeartbeats 8000000 in
set_option maxRecDepth 100000 in
theorem grapnelref16_str.calls (k : Nat) (P0_ : Nat → Prop) (u9000_ : Value) (l0 : List Int) (a1 : ByteArray) (r : List Int) (w0 w : World) (hB : Below w0.heap.size w0 w) (ho0 : Kd.R (Kd.int .u8) 5 w w0.heap.size P0_ u9000_ l0) (h : grapnelref16_str.f k l0 a1 = some r) :
    Calls Try.prog 48 #[u9000_, .string a1] w fun e w' => ∃ v0_ : Value, e = .returned (v0_) ∧ Kd.R (Kd.int .u8) 5 w' w0.heap.size (fun k_ => (P0_ k_ ∨ w.heap.size ≤ k_)) v0_ r ∧ Below w0.heap.size w0 w' ∧ Kept w w' (fun k_ => P0_ k_) := by
  have HO0 := Aside0.mk (show Kd.R (Kd.int .u8) 5 w w0.heap.size (fun k_ => (P0_ k_ ∨ w.heap.size ≤ k_)) u9000_ l0 from Kd.R_mono ho0 (fun k_ hk => (.inl hk)))
  have HK := Aside0.mk (Kept.refl w (fun k_ => P0_ k_))
  have HW0 := Aside0.mk hB.size
  have HB := Aside0.mk hB
  clear hB
  have H : ((grapnelref16_num.f k l0 (a1.size : Int)).bind fun t221 => (if t221.length + a1.size < 140737488355328 then (some (t221 ++ bytesOf a1)) else (none))) = some r := h
  clear h
  replace H := Option.bind_eq_some_iff.mp H
  obtain ⟨t221, A30, H⟩ := H
  replace H : (if t221.length + a1.size < 140737488355328 then (some (t221 ++ bytesOf a1)) else (none)) = some r := H
  have A3 := Aside0.mk A30
  clear A30
  by_cases c4 : t221.length + a1.size < 140737488355328
  · rw [if_pos c4] at H
    have LMc4 := Aside0.mk c4
    clear c4
    obtain ⟨y224, hy224⟩ : ∃ y_ : List Int, y_ = (t221 ++ bytesOf a1) := ⟨_, rfl⟩
    replace H : (some y224) = some r := by first | (rw [hy224]; with_reducible exact H) | (have H2_ := (Option.bind_some _ _).symm.trans H; rw [hy224]; with_reducible exact H2_) | (have H2_ := (Option.bind_some _ _).symm.trans H; with_reducible exact H2_) | with_reducible exact H | (rw [hy224]; exact H) | exact H
    have Ny224 := Aside0.mk hy224
    clear hy224
    obtain rfl := Option.some.inj H
    obtain ⟨Ao5, co5, eo5⟩ := Kd.R_slice HO0.out
    subst eo5
    go_enter Try.func48, Try.ntmps48
    go_wp2_with (first | ((with_reducible refine gate_callee (f := 47) rfl ?_); refine goesL_ (some 8) rfl rfl Try.func47 (by kernel_rfl) rfl #[.slice Ao5 l0.length co5, .int .i64 (a1.size : Int)] rfl (by (try simp only [List.map_toArray, List.map_cons, List.map_nil]); first | done | rfl | (simp only [List.length_drop, List.length_take]; rfl)) ?_; (with_reducible refine (grapnelref16_num.calls k (fun k_ => some k_ = (.slice Ao5 l0.length co5 : Value).ownBlock) (.slice Ao5 l0.length co5) l0 (a1.size : Int) t221 w0 _ ?side1 ?side2 A3.out).mono ?_); (case side1 => repeat (first | (with_reducible first | exact HB.out | apply below_alloc | apply pw_below_drewN | apply below_drew1) | exact HB.out)); (case side2 => exact Kd.R_tight rfl HO0.out); rintro e w6 ⟨v222, rfl, ho0, hb, hkp⟩; refine ⟨_, rfl, ?_⟩; have n0_ := Aside0.mk (Kd.R_mono (ok' := fun k_ => (P0_ k_ ∨ w.heap.size ≤ k_)) ho0 (fun k_ hk_ => Or.elim hk_ (fun hs_ => (HO0.out.1 k_ (hs_).symm)) (fun hn_ => (.inr (Nat.le_trans (by first | exact HK.out.1 | exact (show Kept w _ (fun k_ => P0_ k_) from by repeat (first | (with_reducible first | exact HK.out | apply Kept.alloc | apply Kept.drewN | apply Kept.drew) | exact HK.out)).1) hn_))))); have n1_ := Aside0.mk (Kept.then_ (S := (fun k_ => P0_ k_)) (by repeat (first | (with_reducible first | exact HK.out | apply Kept.alloc | apply Kept.drewN | apply Kept.drew) | exact HK.out)) hkp (fun k_ hs_ => (fun e_ => (HO0.out.1 k_ e_.symm)) hs_)); have n2_ := Aside0.mk (hb); clear HK; clear HB; clear HO0; have HO223 := n0_; have HK := n1_; have HB := n2_; clear n0_ n1_ n2_; (try clear hb); (try clear hkp); (try clear ho0)) | (at_builtin; refine C16.append_string (w0 := w0) w0.heap.size rfl (.tmp 9) _ 29 9 5 rfl Try.underlying29 Try.underlying9 info5 v222 t221 a1 rfl rfl (fun k_ => P0_ k_ ∨ w.heap.size ≤ k_) ?aF ?aO ?aB ?aS ?aL ?_; (case aF => exact (fun k_ hk_ => .inr (Nat.le_trans HK.out.1 hk_))); (case aB => exact (by repeat (first | (with_reducible first | exact HB.out | apply below_alloc | apply pw_below_drewN | apply below_drew1) | exact HB.out))); (case aO => exact (by (with_reducible repeat (first | apply Kd.R_alloc | apply Kd.R_drewN | apply Kd.R_drew)); exact HO223.out)); (case aS => exact (below_size (by repeat (first | (with_reducible first | exact HB.out | apply below_alloc | apply pw_below_drewN | apply below_drew1) | exact HB.out)))); (case aL => have := LMc4.out; omega); intro v225 w7 ho hb hg hat; rw [← Ny224.out] at ho; change Kd.R (Kd.int .u8) 5 w7 w0.heap.size (fun k_ => (P0_ k_ ∨ w.heap.size ≤ k_)) v225 y224 at ho; have n0_ := Aside0.mk (hb); have n1_ := Aside0.mk (Kept.of_grown (S := (fun k_ => P0_ k_)) hg (by repeat (first | (with_reducible first | exact HK.out | apply Kept.alloc | apply Kept.drewN | apply Kept.drew) | exact HK.out)) (fun k_ e_ => (HO223.out.1 k_ e_))); have n2_ := Aside0.mk (ho); clear HB; clear HK; clear HO223; have HB := n0_; have HK := n1_; have HO226 := n2_; clear n0_ n1_ n2_; clear ho hb hg hat))
    go_ret
    exact ⟨_, by first | rfl | (simp [errW_none, errW_some] <;> rfl) | (simp [*, errW_none, errW_some] <;> rfl), by (with_reducible repeat (first | apply Kd.R_alloc | apply Kd.R_drewN | apply Kd.R_drew)); exact HO226.out, by repeat (first | (with_reducible first | exact HB.out | apply below_alloc | apply pw_below_drewN | apply below_drew1) | exact HB.out), by repeat (first | (with_reducible first | exact HK.out | apply Kept.alloc | apply Kept.drewN | apply Kept.drew) | exact HK.out)⟩
  · rw [if_neg c4] at H
    exact absurd H (by simp)

/-! ### grapnelref16_nums: function 49 -/
def grapnelref16_nums.l0 : Nat → List Int → List Int → Int → Option (List Int)
  | 0, _, _, _ => none
  | k + 1, x0, x1, x5 => if x5 < (x1.length : Int) then (if 0 ≤ x5 then ((grapnelref16_num.f k x0 (rd x1 x5)).bind fun t231 => (grapnelref16_nums.l0 k t231 x1 (wrap64 (x5 + 1)))) else (none)) else (some x0)
def grapnelref16_nums.f (k : Nat) (l0 : List Int) (l1 : List Int) : Option (List Int) := (grapnelref16_num.f k l0 (l1.length : Int)).bind fun t227 => (grapnelref16_nums.l0 k t227 l1 0)
theorem grapnelref16_nums.mono_l : ∀ k, (∀ y0 y1 y2, LeO (grapnelref16_nums.l0 k y0 y1 y2) (grapnelref16_nums.l0 (k + 1) y0 y1 y2))
  | 0 => fun _ _ _ r h => by simp [grapnelref16_nums.l0] at h
  | k + 1 => by
    have ih0 := grapnelref16_nums.mono_l k
    · intro y0 y1 y2
      unfold grapnelref16_nums.l0
      repeat' first
      | (with_reducible exact ih0 _ _ _)
      | (with_reducible exact grapnelref16_num.mono _ _ _)
      | (with_reducible exact LeO.refl _)
      | (with_reducible exact LeO.none _)
      | (with_reducible refine LeO.ite ?_ ?_)
      | (with_reducible refine LeO.bind ?_ (fun _ => ?_))
      | exact ih0 _ _ _
      | exact grapnelref16_num.mono _ _ _
      | exact LeO.none _
      | refine LeO.ite ?_ ?_
      | refine LeO.bind ?_ (fun _ => ?_)
theorem grapnelref16_nums.mono : ∀ a0 a1 k, LeO (grapnelref16_nums.f k a0 a1) (grapnelref16_nums.f (k + 1) a0 a1) := by
  intro a0 a1 k
  have ih0 := grapnelref16_nums.mono_l k
  unfold grapnelref16_nums.f
  repeat' first
      | (with_reducible exact ih0 _ _ _)
      | (with_reducible exact grapnelref16_num.mono _ _ _)
      | (with_reducible exact LeO.refl _)
      | (with_reducible exact LeO.none _)
      | (with_reducible refine LeO.ite ?_ ?_)
      | (with_reducible refine LeO.bind ?_ (fun _ => ?_))
      | exact ih0 _ _ _
      | exact grapnelref16_num.mono _ _ _
      | exact LeO.none _
      | refine LeO.ite ?_ ?_
      | refine LeO.bind ?_ (fun _ => ?_)
set_option maxHeartbeats 8000000 in
set_option maxRecDepth 100000 in
theorem grapnelref16_nums.calls (k : Nat) (P0_ : Nat → Prop) (u9000_ : Value) (l0 : List Int) (A1 : Option Addr) (c1 : Nat) (l1 : List Int) (r : List Int) (w0 w : World) (hB : Below w0.heap.size w0 w) (ho0 : Kd.R (Kd.int .u8) 5 w w0.heap.size P0_ u9000_ l0) (hr1 : ∀ W_, Kept w W_ (fun k_ => P0_ k_) → Kd.C (Kd.int .i64) W_ A1 l1.length l1) (hc1 : l1.length ≤ c1) (h : grapnelref16_nums.f k l0 l1 = some r) :
    Calls Try.prog 49 #[u9000_, .slice A1 l1.length c1] w fun e w' => ∃ v0_ : Value, e = .returned (v0_) ∧ Kd.R (Kd.int .u8) 5 w' w0.heap.size (fun k_ => (P0_ k_ ∨ w.heap.size ≤ k_)) v0_ r ∧ Below w0.heap.size w0 w' ∧ Kept w w' (fun k_ => P0_ k_) := by
  have HO0 := Aside0.mk (show Kd.R (Kd.int .u8) 5 w w0.heap.size (fun k_ => (P0_ k_ ∨ w.heap.size ≤ k_)) u9000_ l0 from Kd.R_mono ho0 (fun k_ hk => (.inl hk)))
  have HR1 := Aside0.mk hr1
  have HC1 := Aside0.mk hc1
  clear hr1 hc1
  have HK := Aside0.mk (Kept.refl w (fun k_ => P0_ k_))
  have HW0 := Aside0.mk hB.size
  have HB := Aside0.mk hB
  clear hB
  have H : ((grapnelref16_num.f k l0 (l1.length : Int)).bind fun t227 => (grapnelref16_nums.l0 k t227 l1 0)) = some r := h
  clear h
  replace H := Option.bind_eq_some_iff.mp H
  obtain ⟨t227, A30, H⟩ := H
  replace H : (grapnelref16_nums.l0 k t227 l1 0) = some r := H
  have A3 := Aside0.mk A30
  clear A30
  have H' := Aside0.mk H
  clear H
  obtain ⟨Ao4, co4, eo4⟩ := Kd.R_slice HO0.out
  subst eo4
  go_enter Try.func49, Try.ntmps49
  go_wp2_with (first | ((with_reducible refine gate_callee (f := 47) rfl ?_); refine goesL_ (some 9) rfl rfl Try.func47 (by kernel_rfl) rfl #[.slice Ao4 l0.length co4, .int .i64 (l1.length : Int)] rfl (by (try simp only [List.map_toArray, List.map_cons, List.map_nil]); first | done | rfl | (simp only [List.length_drop, List.length_take]; rfl)) ?_; (with_reducible refine (grapnelref16_num.calls k (fun k_ => some k_ = (.slice Ao4 l0.length co4 : Value).ownBlock) (.slice Ao4 l0.length co4) l0 (l1.length : Int) t227 w0 _ ?side1 ?side2 A3.out).mono ?_); (case side1 => repeat (first | (with_reducible first | exact HB.out | apply below_alloc | apply pw_below_drewN | apply below_drew1) | exact HB.out)); (case side2 => exact Kd.R_tight rfl HO0.out); rintro e w5 ⟨v228, rfl, ho0, hb, hkp⟩; refine ⟨_, rfl, ?_⟩; have n0_ := Aside0.mk (Kd.R_mono (ok' := fun k_ => (P0_ k_ ∨ w.heap.size ≤ k_)) ho0 (fun k_ hk_ => Or.elim hk_ (fun hs_ => (HO0.out.1 k_ (hs_).symm)) (fun hn_ => (.inr (Nat.le_trans (by first | exact HK.out.1 | exact (show Kept w _ (fun k_ => P0_ k_) from by repeat (first | (with_reducible first | exact HK.out | apply Kept.alloc | apply Kept.drewN | apply Kept.drew) | exact HK.out)).1) hn_))))); have n1_ := Aside0.mk (Kept.then_ (S := (fun k_ => P0_ k_)) (by repeat (first | (with_reducible first | exact HK.out | apply Kept.alloc | apply Kept.drewN | apply Kept.drew) | exact HK.out)) hkp (fun k_ hs_ => (fun e_ => (HO0.out.1 k_ e_.symm)) hs_)); have n2_ := Aside0.mk (hb); clear HK; clear HB; clear HO0; have HO229 := n0_; have HK := n1_; have HB := n2_; clear n0_ n1_ n2_; (try clear hb); (try clear hkp); (try clear ho0)))
  go_loopg [0, 5] k (fun kq v0 v5 w' => ∃ (x0_1 : List Int) (x5_1 : Int), v5 = .int .i64 x5_1 ∧ Aside0 (grapnelref16_nums.l0 kq x0_1 l1 x5_1 = some r) ∧ Aside0 (kq ≤ k) ∧ Aside0 (Kd.R (Kd.int .u8) 5 w' w0.heap.size (fun k_ => (P0_ k_ ∨ w.heap.size ≤ k_)) v0 x0_1) ∧ Aside0 (Kept w w' (fun k_ => P0_ k_)) ∧ Aside0 (Below w0.heap.size w0 w'))
  case atStart => exact ⟨(t227), (0), (by first | rfl | (simp; done) | (simp [*]; done)), H', ⟨Nat.le_refl _⟩, ⟨by (with_reducible repeat (first | apply Kd.R_alloc | apply Kd.R_drewN | apply Kd.R_drew)); exact HO229.out⟩, ⟨by repeat (first | (with_reducible first | exact HK.out | apply Kept.alloc | apply Kept.drewN | apply Kept.drew) | exact HK.out)⟩, ⟨by repeat (first | (with_reducible first | exact HB.out | apply below_alloc | apply pw_below_drewN | apply below_drew1) | exact HB.out)⟩⟩
  case round =>
    clear H'
    try clear c1
    try clear p2
    try clear c4
    obtain ⟨x0_1, x5_1, rfl, HA, HK1, HO_0, HK, HB⟩ := hrel
    cases gk with
    | zero => exact absurd HA.out (by simp [grapnelref16_nums.l0])
    | succ k1 =>
      have H := HA.out
      clear HA
      simp only [grapnelref16_nums.l0] at H
      by_cases c6 : x5_1 < (l1.length : Int)
      · rw [if_pos c6] at H
        have c6b0 : decide (x5_1 < (l1.length : Int)) = true := decide_eq_true c6
        clear c6
        by_cases c7 : 0 ≤ x5_1
        · rw [if_pos c7] at H
          have c7b0 : decide (0 ≤ x5_1) = true := decide_eq_true c7
          clear c7
          replace H := Option.bind_eq_some_iff.mp H
          obtain ⟨t231, A80, H⟩ := H
          replace H : (grapnelref16_nums.l0 k1 t231 l1 (wrap64 (x5_1 + 1))) = some r := H
          have A8 := Aside0.mk A80
          clear A80
          have H' := Aside0.mk H
          clear H
          have p230 : 0 ≤ (x5_1 : Int) := of_decide_eq_true (by first | (with_reducible assumption) | assumption)
          have q230 : x5_1 < (l1.length : Int) := of_decide_eq_true (by first | (with_reducible assumption) | assumption)
          obtain ⟨ad230, e230, hx230_0⟩ := Kd.at_int (Kd.C_kept_now HR1.out HK.out) x5_1 p230 q230
          cases e230
          replace p230 := eq_true p230
          replace q230 := eq_true q230
          obtain ⟨Ao9, co9, eo9⟩ := Kd.R_slice HO_0.out
          subst eo9
          go_wp2_with (first | ((with_reducible refine gate_callee (f := 47) rfl ?_); refine goesL_ (some 21) rfl rfl Try.func47 (by kernel_rfl) rfl #[.slice Ao9 x0_1.length co9, .int .i64 (rd l1 x5_1)] rfl (by (try simp only [List.map_toArray, List.map_cons, List.map_nil]); first | done | rfl | (simp only [List.length_drop, List.length_take]; rfl)) ?_; (with_reducible refine (grapnelref16_num.calls k1 (fun k_ => some k_ = (.slice Ao9 x0_1.length co9 : Value).ownBlock) (.slice Ao9 x0_1.length co9) x0_1 (rd l1 x5_1) t231 w0 _ ?side1 ?side2 A8.out).mono ?_); (case side1 => repeat (first | (with_reducible first | exact HB.out | apply below_alloc | apply pw_below_drewN | apply below_drew1) | exact HB.out)); (case side2 => exact Kd.R_tight rfl HO_0.out); rintro e w10 ⟨v232, rfl, ho0, hb, hkp⟩; refine ⟨_, rfl, ?_⟩; have n0_ := Aside0.mk (Kd.R_mono (ok' := fun k_ => (P0_ k_ ∨ w.heap.size ≤ k_)) ho0 (fun k_ hk_ => Or.elim hk_ (fun hs_ => (HO_0.out.1 k_ (hs_).symm)) (fun hn_ => (.inr (Nat.le_trans (by first | exact HK.out.1 | exact (show Kept w _ (fun k_ => P0_ k_) from by repeat (first | (with_reducible first | exact HK.out | apply Kept.alloc | apply Kept.drewN | apply Kept.drew) | exact HK.out)).1) hn_))))); have n1_ := Aside0.mk (Kept.then_ (S := (fun k_ => P0_ k_)) (by repeat (first | (with_reducible first | exact HK.out | apply Kept.alloc | apply Kept.drewN | apply Kept.drew) | exact HK.out)) hkp (fun k_ hs_ => (fun e_ => (HO_0.out.1 k_ e_.symm)) hs_)); have n2_ := Aside0.mk (hb); clear HK; clear HB; clear HO_0; have HO233 := n0_; have HK := n1_; have HB := n2_; clear n0_ n1_ n2_; (try clear hb); (try clear hkp); (try clear ho0)))
          go_roundg k1
          case measure => have := HK1.out; omega
          case rel => exact ⟨(t231), (wrap64 (x5_1 + 1)), (by first | rfl | (simp; done) | (simp [*]; done)), H', ⟨by have := HK1.out; omega⟩, ⟨by (with_reducible repeat (first | apply Kd.R_alloc | apply Kd.R_drewN | apply Kd.R_drew)); exact HO233.out⟩, ⟨by repeat (first | (with_reducible first | exact HK.out | apply Kept.alloc | apply Kept.drewN | apply Kept.drew) | exact HK.out)⟩, ⟨by repeat (first | (with_reducible first | exact HB.out | apply below_alloc | apply pw_below_drewN | apply below_drew1) | exact HB.out)⟩⟩
        · rw [if_neg c7] at H
          exact absurd H (by simp)
      · rw [if_neg c6] at H
        have c6b0 : decide (x5_1 < (l1.length : Int)) = false := decide_eq_false c6
        clear c6
        obtain rfl := Option.some.inj H
        go_wp2
        go_ret
        exact ⟨_, by first | rfl | (simp [errW_none, errW_some] <;> rfl) | (simp [*, errW_none, errW_some] <;> rfl), by (with_reducible repeat (first | apply Kd.R_alloc | apply Kd.R_drewN | apply Kd.R_drew)); exact HO_0.out, by repeat (first | (with_reducible first | exact HB.out | apply below_alloc | apply pw_below_drewN | apply below_drew1) | exact HB.out), by repeat (first | (with_reducible first | exact HK.out | apply Kept.alloc | apply Kept.drewN | apply Kept.drew) | exact HK.out)⟩
end Go.Proofs.Ytmjafkhkoifopaa.PCodeDecodes
end
section
/- The reference: the forms of its small functions. -/
namespace Go.Proofs.Ytmjafkhkoifopaa.C16
open Go.RowKit Go.Proofs.YtmjafkhkoifopaaW.PrintWords Go.Proofs.YtmjafkhkoifopaaW.PrintLast Go.Proofs.YtmjafkhkoifopaaW.PrintMore Go.Proofs.Ytmjafkhkoifopaa.PCodeDecodes
set_option linter.unusedVariables false
set_option linter.unusedSimpArgs false
def shapeOf (f : Int) : ByteArray := if f = 1 then ⟨#[65]⟩ else if f = 3 then ⟨#[65, 66]⟩ else if f = 8 then ⟨#[49]⟩ else if f = 9 then ⟨#[65, 49]⟩ else if f = 17 then ⟨#[65, 76]⟩ else if f = 20 then ⟨#[84, 76]⟩ else if f = 0 then ⟨#[]⟩ else ⟨#[63]⟩
theorem op_cases (op : Int) : (∃ n : Fin 31, 1 ≤ n.val ∧ op = (n.val : Int)) ∨ fieldsOf op = -1 ∧ ¬ (1 ≤ op ∧ op ≤ 30) := by
  by_cases h : 1 ≤ op ∧ op ≤ 30
  · exact .inl ⟨⟨op.toNat, by omega⟩, by show 1 ≤ op.toNat; omega, by show op = ((op.toNat : Nat) : Int); omega⟩
  · refine .inr ⟨?_, h⟩
    unfold fieldsOf
    iterate 30 rw [if_neg (by omega)]
set_option maxRecDepth 100000 in
theorem shape_f (op : Int) : grapnelref16_shape.f 4 op = some (shapeOf (fieldsOf op)) := by
  rcases op_cases op with ⟨n, hn, rfl⟩ | ⟨hf, h⟩
  · have hall : ∀ n : Fin 31, 1 ≤ n.val → grapnelref16_shape.f 4 (n.val : Int) = some (shapeOf (fieldsOf (n.val : Int))) := by
      intro n hn
      match n, hn with
      | ⟨1, _⟩, _ => rfl
      | ⟨2, _⟩, _ => rfl
      | ⟨3, _⟩, _ => rfl
      | ⟨4, _⟩, _ => rfl
      | ⟨5, _⟩, _ => rfl
      | ⟨6, _⟩, _ => rfl
      | ⟨7, _⟩, _ => rfl
      | ⟨8, _⟩, _ => rfl
      | ⟨9, _⟩, _ => rfl
      | ⟨10, _⟩, _ => rfl
      | ⟨11, _⟩, _ => rfl
      | ⟨12, _⟩, _ => rfl
      | ⟨13, _⟩, _ => rfl
      | ⟨14, _⟩, _ => rfl
      | ⟨15, _⟩, _ => rfl
      | ⟨16, _⟩, _ => rfl
      | ⟨17, _⟩, _ => rfl
      | ⟨18, _⟩, _ => rfl
      | ⟨19, _⟩, _ => rfl
      | ⟨20, _⟩, _ => rfl
      | ⟨21, _⟩, _ => rfl
      | ⟨22, _⟩, _ => rfl
      | ⟨23, _⟩, _ => rfl
      | ⟨24, _⟩, _ => rfl
      | ⟨25, _⟩, _ => rfl
      | ⟨26, _⟩, _ => rfl
      | ⟨27, _⟩, _ => rfl
      | ⟨28, _⟩, _ => rfl
      | ⟨29, _⟩, _ => rfl
      | ⟨30, _⟩, _ => rfl
      | ⟨0, _⟩, h => exact absurd h (Nat.not_succ_le_zero 0)
      | ⟨n + 31, h⟩, _ => exact absurd h (by omega)
    exact hall n hn
  · rw [hf]
    have e : ∀ c : Int, 1 ≤ c → c ≤ 30 → ¬ op = c := fun c h1 h2 e => h (by omega)
    have eb : ∀ c : Int, 1 ≤ c → c ≤ 30 → (op == c) = false := fun c h1 h2 => by rw [beq_eq_false_iff_ne]; exact e c h1 h2
    have e1 := e 1 (by omega) (by omega)
    have e2 := e 2 (by omega) (by omega)
    have e3 := e 3 (by omega) (by omega)
    have e4 := e 4 (by omega) (by omega)
    have e5 := e 5 (by omega) (by omega)
    have e6 := e 6 (by omega) (by omega)
    have e7 := e 7 (by omega) (by omega)
    have e8 := e 8 (by omega) (by omega)
    have e9 := e 9 (by omega) (by omega)
    have e10 := e 10 (by omega) (by omega)
    have e11 := e 11 (by omega) (by omega)
    have e12 := e 12 (by omega) (by omega)
    have e13 := e 13 (by omega) (by omega)
    have e14 := e 14 (by omega) (by omega)
    have e15 := e 15 (by omega) (by omega)
    have e16 := e 16 (by omega) (by omega)
    have e17 := e 17 (by omega) (by omega)
    have e18 := e 18 (by omega) (by omega)
    have e19 := e 19 (by omega) (by omega)
    have e20 := e 20 (by omega) (by omega)
    have e21 := e 21 (by omega) (by omega)
    have e22 := e 22 (by omega) (by omega)
    have e23 := e 23 (by omega) (by omega)
    have e24 := e 24 (by omega) (by omega)
    have e25 := e 25 (by omega) (by omega)
    have e26 := e 26 (by omega) (by omega)
    have e27 := e 27 (by omega) (by omega)
    have e28 := e 28 (by omega) (by omega)
    have e29 := e 29 (by omega) (by omega)
    have e30 := e 30 (by omega) (by omega)
    simp only [grapnelref16_shape.f, grapnelref16_shape.j0, grapnelref16_shape.j1, grapnelref16_shape.j2, e1, e2, e3, e4, e5, e6, e7, e8, e9, e10, e11, e12, e13, e14, e15, e16, e17, e18, e19, e20, e21, e22, e23, e24, e25, e26, e27, e28, e29, e30, if_false, beq_iff_eq]
    rfl
theorem shape_is (op f : Int) (hf : fieldsOf op = f) (w : World) : Calls Try.prog 36 #[.int .i64 op] w fun e w' => e = .returned (.string (shapeOf f)) ∧ Drawn0 w w' :=
  grapnelref16_shape.calls 4 op _ w (by rw [shape_f, hf])
theorem has_T (f : Int) (hf : f = 0 ∨ f = 1 ∨ f = 3 ∨ f = 8 ∨ f = 9 ∨ f = 17 ∨ f = 20) : grapnelref16_has.f 4 (shapeOf f) 84 = some (f == 20) := by
  rcases hf with rfl | rfl | rfl | rfl | rfl | rfl | rfl
  all_goals kernel_rfl
theorem has_1 (f : Int) (hf : f = 0 ∨ f = 1 ∨ f = 3 ∨ f = 8 ∨ f = 9 ∨ f = 17 ∨ f = 20) : grapnelref16_has.f 4 (shapeOf f) 49 = some (f == 8 || f == 9) := by
  rcases hf with rfl | rfl | rfl | rfl | rfl | rfl | rfl
  all_goals kernel_rfl
theorem has_A (f : Int) (hf : f = 0 ∨ f = 1 ∨ f = 3 ∨ f = 8 ∨ f = 9 ∨ f = 17 ∨ f = 20) : grapnelref16_has.f 4 (shapeOf f) 65 = some (f == 1 || f == 3 || f == 9 || f == 17) := by
  rcases hf with rfl | rfl | rfl | rfl | rfl | rfl | rfl
  all_goals kernel_rfl
theorem has_B (f : Int) (hf : f = 0 ∨ f = 1 ∨ f = 3 ∨ f = 8 ∨ f = 9 ∨ f = 17 ∨ f = 20) : grapnelref16_has.f 4 (shapeOf f) 66 = some (f == 3) := by
  rcases hf with rfl | rfl | rfl | rfl | rfl | rfl | rfl
  all_goals kernel_rfl
theorem has_L (f : Int) (hf : f = 0 ∨ f = 1 ∨ f = 3 ∨ f = 8 ∨ f = 9 ∨ f = 17 ∨ f = 20) : grapnelref16_has.f 4 (shapeOf f) 76 = some (f == 17 || f == 20) := by
  rcases hf with rfl | rfl | rfl | rfl | rfl | rfl | rfl
  all_goals kernel_rfl
theorem has_is (f : Int) (c : Int) (b : Bool) (h : grapnelref16_has.f 4 (shapeOf f) c = some b) (w : World) : Calls Try.prog 37 #[.string (shapeOf f), .int .u8 c] w fun e w' => e = .returned (.bool b) ∧ Drawn0 w w' :=
  grapnelref16_has.calls 4 (shapeOf f) c b w h
/-- The bounds of an operation's A. -/
def loOf (op : Int) : Int := if op = 1 then -4611686018427387904 else if op = 5 then -100 else if op = 10 ∨ op = 13 ∨ op = 11 ∨ op = 23 ∨ op = 22 then 1 else 0
def hiOf (op n : Int) : Int := if op = 1 then 4611686018427387903 else if op = 2 then n - 1 else if op = 3 ∨ op = 7 ∨ op = 8 ∨ op = 14 then 8192 else if op = 4 ∨ op = 18 ∨ op = 19 ∨ op = 15 then 4095 else if op = 5 then 100 else if op = 10 ∨ op = 13 ∨ op = 11 then 30 else if op = 16 then 4036 else if op = 17 then 199 else if op = 23 then 12 else if op = 22 then 42 else 0
theorem bounds_f (op n : Int) (hn : 0 ≤ n ∧ n ≤ 9223372036854775807) : grapnelref16_bounds.f 4 op n = some (loOf op, hiOf op n) := by
  have hw : wrap64 (n - 1) = n - 1 := by unfold wrap64; omega
  by_cases h1 : op = 1
  · subst h1; rfl
  by_cases h2 : op = 2
  · subst h2; simp [grapnelref16_bounds.f, hw, loOf, hiOf]
  by_cases h3 : op = 3
  · subst h3; rfl
  by_cases h4 : op = 4
  · subst h4; rfl
  by_cases h5 : op = 5
  · subst h5; rfl
  by_cases h7 : op = 7
  · subst h7; rfl
  by_cases h8 : op = 8
  · subst h8; rfl
  by_cases h10 : op = 10
  · subst h10; rfl
  by_cases h11 : op = 11
  · subst h11; rfl
  by_cases h13 : op = 13
  · subst h13; rfl
  by_cases h14 : op = 14
  · subst h14; rfl
  by_cases h15 : op = 15
  · subst h15; rfl
  by_cases h16 : op = 16
  · subst h16; rfl
  by_cases h17 : op = 17
  · subst h17; rfl
  by_cases h18 : op = 18
  · subst h18; rfl
  by_cases h19 : op = 19
  · subst h19; rfl
  by_cases h22 : op = 22
  · subst h22; rfl
  by_cases h23 : op = 23
  · subst h23; rfl
  simp [grapnelref16_bounds.f, grapnelref16_bounds.j0, grapnelref16_bounds.j1, grapnelref16_bounds.j2, loOf, hiOf, h1, h2, h3, h4, h5, h7, h8, h10, h11, h13, h14, h15, h16, h17, h18, h19, h22, h23]
theorem rrises_loop (l : List Int) (hx : l.length ≤ 9223372036854775806) : ∀ (d i : Nat), l.length - i = d → 1 ≤ i →
    grapnelref16_rises.l0 (d + 1) l i = some (decide (∀ j, j < l.length - 1 → i ≤ j + 1 → l.getD j 0 < l.getD (j + 1) 0)) := by
  intro d
  induction d with
  | zero =>
    intro i hd hi
    rw [grapnelref16_rises.l0.eq_2]
    rw [if_neg (by omega)]
    congr 1
    exact (decide_eq_true (fun j h1 h2 => by omega)).symm
  | succ d ih =>
    intro i hd hi
    rw [grapnelref16_rises.l0.eq_2]
    have e2 : wrap64 ((i : Int) + 1) = ((i + 1 : Nat) : Int) := (wrap_id (by omega) (by omega)).trans (by omega)
    have e1 : wrap64 ((i : Int) - 1) = ((i - 1 : Nat) : Int) := (wrap_id (by omega) (by omega)).trans (by omega)
    have er1 : rd l ((i - 1 : Nat) : Int) = l.getD (i - 1) 0 := by simp [rd]
    have er2 : rd l (i : Int) = l.getD i 0 := by simp [rd]
    rw [if_pos (by omega), if_pos (by omega), e1, if_pos (by omega), if_pos (by omega), er1, er2, e2, ih (i + 1) (by omega) (by omega)]
    by_cases hlt : l.getD (i - 1) 0 < l.getD i 0
    · rw [if_neg (by omega)]
      congr 1
      rw [decide_eq_decide]
      constructor
      · intro h j h1 h2
        by_cases e : j = i - 1
        · subst e
          rw [show i - 1 + 1 = i by omega]
          exact hlt
        · exact h j h1 (by omega)
      · intro h j h1 h2
        exact h j h1 (by omega)
    · rw [if_pos (by omega)]
      congr 1
      refine (decide_eq_false fun h => hlt ?_).symm
      have := h (i - 1) (by omega) (by omega)
      rwa [show i - 1 + 1 = i by omega] at this
theorem rrises_f (l : List Int) (hx : l.length ≤ 9223372036854775806) : grapnelref16_rises.f (l.length - 1 + 1) l = some (risesB l) := by
  have h := rrises_loop l hx (l.length - 1) 1 rfl (Nat.le_refl _)
  unfold grapnelref16_rises.f risesB
  rw [show ((1 : Nat) : Int) = 1 from rfl] at h
  rw [h]
  congr 1
  rw [decide_eq_decide]
  exact ⟨fun h j h1 => h j h1 (by omega), fun h j h1 _ => h j h1⟩
theorem rrises_is (A : Option Addr) (c : Nat) (l : List Int) (b : Bool) (h : risesB l = b) (w : World) (hr : Kd.C (Kd.int .i64) w A l.length l) (hc : l.length ≤ c) (hl : l.length ≤ 9223372036854775806) :
    Calls Try.prog 46 #[.slice A l.length c] w fun e w' => e = .returned (.bool b) ∧ Drawn0 w w' :=
  grapnelref16_rises.calls _ A c l b w hr hc (by rw [rrises_f l hl, h])
end Go.Proofs.Ytmjafkhkoifopaa.C16
end
section
/- The reference: may these exceptions be? -/
namespace Go.Proofs.Ytmjafkhkoifopaa.C16
open Go.RowKit Go.Proofs.YtmjafkhkoifopaaW.PrintWords Go.Proofs.YtmjafkhkoifopaaW.PrintLast Go.Proofs.YtmjafkhkoifopaaW.PrintMore Go.Proofs.Ytmjafkhkoifopaa.PCodeDecodes
set_option linter.unusedVariables false
set_option linter.unusedSimpArgs false
theorem toList_iff {a b : ByteArray} : a.toList = b.toList ↔ a = b := by
  constructor
  · intro h
    rw [ByteArray.toList_eq, ByteArray.toList_eq] at h
    exact bytes_ext h
  · rintro rfl; rfl
def Rest (es : List S45) (i : Nat) : Prop := ∀ k, i ≤ k → k < es.length → exnOk es k
theorem rexns_l1 (es : List S45) (k : Nat) (hk : k < es.length) (hl : es.length ≤ 200) (K0 : Nat) (b0 : Bool) (h0 : grapnelref16_Exns.l0 K0 es first6 ((k + 1 : Nat) : Int) = some b0) (R : Prop) (hb0 : b0 = true ↔ R) :
    ∀ (d j : Nat), k - j = d → j ≤ k → ∃ K b, grapnelref16_Exns.l1 K es first6 k j = some b ∧ (b = true ↔ (∀ i, j ≤ i → i < k → nm es i ≠ nm es k) ∧ R) := by
  intro d
  induction d with
  | zero =>
    intro j hd hj
    have e2 : wrap64 ((k : Int) + 1) = ((k + 1 : Nat) : Int) := (wrap_id (by omega) (by omega)).trans (by omega)
    refine ⟨K0 + 1, b0, ?_, ?_⟩
    · rw [grapnelref16_Exns.l1.eq_2, if_neg (by omega), e2]
      exact h0
    · rw [hb0]
      exact ⟨fun h => ⟨fun i h1 h2 => by omega, h⟩, fun h => h.2⟩
  | succ d ih =>
    intro j hd hj
    have e2 : wrap64 ((j : Int) + 1) = ((j + 1 : Nat) : Int) := (wrap_id (by omega) (by omega)).trans (by omega)
    by_cases hn : nm es j = nm es k
    · refine ⟨1, false, ?_, ?_⟩
      · rw [grapnelref16_Exns.l1.eq_2, if_pos (by omega), if_pos (by omega), if_pos (by omega), if_pos (by omega), if_pos (by omega), if_pos (show (rd_T45 es (j : Int)).f0.toList = (rd_T45 es (k : Int)).f0.toList from toList_iff.2 hn)]
      · constructor
        · intro h; cases h
        · intro h
          exact absurd hn (h.1 j (Nat.le_refl _) (by omega))
    · obtain ⟨K, b, h, hb⟩ := ih (j + 1) (by omega) (by omega)
      refine ⟨K + 1, b, ?_, ?_⟩
      · rw [grapnelref16_Exns.l1.eq_2, if_pos (by omega), if_pos (by omega), if_pos (by omega), if_pos (by omega), if_pos (by omega), if_neg (show ¬ (rd_T45 es (j : Int)).f0.toList = (rd_T45 es (k : Int)).f0.toList from fun e => hn (toList_iff.1 e)), e2]
        exact h
      · rw [hb]
        constructor
        · rintro ⟨h1, h2⟩
          refine ⟨fun i hi1 hi2 => ?_, h2⟩
          by_cases e : i = j
          · subst e; exact hn
          · exact h1 i (by omega) hi2
        · rintro ⟨h1, h2⟩
          exact ⟨fun i hi1 hi2 => h1 i (by omega) hi2, h2⟩
theorem rexns_j2 (es : List S45) (k K : Nat) (b : Bool) (P R : Prop) (h : grapnelref16_Exns.l1 K es first6 k 0 = some b) (hb : b = true ↔ (∀ i, 0 ≤ i → i < k → nm es i ≠ nm es k) ∧ R) (bad : Bool) (hbad : bad = false ↔ P) :
    ∃ b', grapnelref16_Exns.j2 (K + 1) es first6 k bad = some b' ∧ (b' = true ↔ P ∧ (∀ i, i < k → nm es i ≠ nm es k) ∧ R) := by
  cases bad with
  | true =>
    refine ⟨false, by rw [grapnelref16_Exns.j2.eq_2, if_pos rfl], ?_⟩
    constructor
    · intro h; cases h
    · intro h; exact absurd (hbad.2 h.1) (by simp)
  | false =>
    refine ⟨b, by rw [grapnelref16_Exns.j2.eq_2, if_neg (by simp)]; exact h, ?_⟩
    rw [hb]
    exact ⟨fun h => ⟨hbad.1 rfl, fun i hi => h.1 i (Nat.zero_le _) hi, h.2⟩, fun h => ⟨fun i _ hi => h.2.1 i hi, h.2.2⟩⟩
theorem empty_iff (s : ByteArray) : s.toList.isEmpty = false ↔ ¬ (s.size : Int) = 0 := by
  rw [ByteArray.toList_eq]
  have e : s.size = s.data.toList.length := by rw [Array.length_toList]; rfl
  rw [e]
  cases s.data.toList with
  | nil => simp
  | cons a l => simp; omega
theorem rexns_l0 (es : List S45) (h6 : 6 ≤ es.length) (hl : es.length ≤ 200) : ∀ (d i : Nat), es.length - i = d → i ≤ es.length → ∃ K b, grapnelref16_Exns.l0 K es first6 i = some b ∧ (b = true ↔ Rest es i) := by
  intro d
  induction d with
  | zero =>
    intro i hd hi
    refine ⟨1, true, by rw [grapnelref16_Exns.l0.eq_2, if_neg (by omega)], ?_⟩
    exact ⟨fun _ k h1 h2 => by omega, fun _ => rfl⟩
  | succ d ih =>
    intro i hd hi
    have hlt : i < es.length := by omega
    obtain ⟨K0, b0, h0, hb0⟩ := ih (i + 1) (by omega) (by omega)
    obtain ⟨K1, b1, h1, hb1⟩ := rexns_l1 es i hlt hl K0 b0 h0 _ hb0 i 0 (by omega) (by omega)
    have key : ∀ (P : Prop) (bad : Bool), (bad = false ↔ P) → (exnOk es i ↔ P ∧ (∀ j, j < i → nm es j ≠ nm es i)) → ∃ b', grapnelref16_Exns.j2 (K1 + 1) es first6 i bad = some b' ∧ (b' = true ↔ Rest es i) := by
      intro P bad hbad hP
      obtain ⟨b', h, hb⟩ := rexns_j2 es i K1 b1 P _ h1 hb1 bad hbad
      refine ⟨b', h, hb.trans ?_⟩
      constructor
      · rintro ⟨g1, g2, g3⟩ k hk1 hk2
        by_cases e : k = i
        · subst e; exact hP.2 ⟨g1, g2⟩
        · exact g3 k (by omega) hk2
      · intro h
        have := hP.1 (h i (Nat.le_refl _) hlt)
        exact ⟨this.1, this.2, fun k hk1 hk2 => h k (by omega) hk2⟩
    have en : (rd_T45 es (i : Int)).f0 = nm es i := rfl
    by_cases c1 : ((nm es i).size : Int) = 0
    · obtain ⟨b', h, hb⟩ := key False true (by simp) ⟨fun h => absurd c1 ((empty_iff _).1 h.1), fun h => h.1.elim⟩
      exact ⟨K1 + 1 + 1, b', by rw [grapnelref16_Exns.l0.eq_2, if_pos (by omega), if_pos (by omega), en, if_pos c1]; exact h, hb⟩
    by_cases c2 : ((nm es i).size : Int) > 4096
    · obtain ⟨b', h, hb⟩ := key False true (by simp) ⟨fun h => by have := h.2.1; omega, fun h => h.1.elim⟩
      exact ⟨K1 + 1 + 1, b', by rw [grapnelref16_Exns.l0.eq_2, if_pos (by omega), if_pos (by omega), en, if_neg c1, if_pos c2]; exact h, hb⟩
    have g1 := (empty_iff _).2 c1
    have g2 : (nm es i).size ≤ 4096 := by omega
    by_cases c3 : (i : Int) < 6
    · have e6 : rdOf ByteArray.empty first6 (i : Int) = first6.getD i ByteArray.empty := by simp [rdOf]
      by_cases c4 : nm es i = first6.getD i ByteArray.empty
      · obtain ⟨b', h, hb⟩ := key ((rd_T45 es (i : Int)).f1 = decide (i = 5)) ((rd_T45 es (i : Int)).f1 != ((i : Int) == 5)) (by
          have e5 : ((i : Int) == 5) = decide (i = 5) := by
            by_cases h5 : i = 5
            · subst h5; rfl
            · rw [decide_eq_false h5, beq_eq_false_iff_ne]; omega
          rw [e5]
          simp) ⟨fun h => ⟨(h.2.2.2 (by omega)).2, h.2.2.1⟩, fun h => ⟨g1, g2, h.2, fun _ => ⟨c4, h.1⟩⟩⟩
        exact ⟨K1 + 1 + 1, b', by rw [grapnelref16_Exns.l0.eq_2, if_pos (by omega), if_pos (by omega), en, if_neg c1, if_neg c2, if_pos c3, if_pos (by simp; omega), e6, if_pos (toList_iff.2 c4)]; exact h, hb⟩
      · obtain ⟨b', h, hb⟩ := key False true (by simp) ⟨fun h => absurd (h.2.2.2 (by omega)).1 c4, fun h => h.1.elim⟩
        exact ⟨K1 + 1 + 1, b', by rw [grapnelref16_Exns.l0.eq_2, if_pos (by omega), if_pos (by omega), en, if_neg c1, if_neg c2, if_pos c3, if_pos (by simp; omega), e6, if_neg (fun e => c4 (toList_iff.1 e))]; exact h, hb⟩
    · obtain ⟨b', h, hb⟩ := key True false (by simp) ⟨fun h => ⟨trivial, h.2.2.1⟩, fun h => ⟨g1, g2, h.2, fun h6 => by omega⟩⟩
      exact ⟨K1 + 1 + 1, b', by rw [grapnelref16_Exns.l0.eq_2, if_pos (by omega), if_pos (by omega), en, if_neg c1, if_neg c2, if_neg c3]; exact h, hb⟩
theorem rexns_f (es : List S45) : ∃ K b, grapnelref16_Exns.f K es = some b ∧ (b = true ↔ ExnsOk es) := by
  by_cases h6 : 6 ≤ es.length
  · by_cases hl : es.length ≤ 200
    · obtain ⟨K, b, h, hb⟩ := rexns_l0 es h6 hl es.length 0 (by omega) (by omega)
      refine ⟨K + 1, b, ?_, hb.trans ?_⟩
      · unfold grapnelref16_Exns.f
        rw [Option.bind_some, if_neg (by omega), decide_eq_false (show ¬ (es.length : Int) > 200 by omega), grapnelref16_Exns.j0.eq_2, if_neg (by simp)]
        exact h
      · exact ⟨fun h => ⟨h6, hl, fun k hk => h k (Nat.zero_le _) hk⟩, fun h k _ hk => h.2.2 k hk⟩
    · refine ⟨1, false, ?_, ?_⟩
      · unfold grapnelref16_Exns.f
        rw [Option.bind_some, if_neg (by omega), decide_eq_true (show (es.length : Int) > 200 by omega), grapnelref16_Exns.j0.eq_2, if_pos rfl]
      · exact ⟨fun h => (by cases h), fun h => absurd h.2.1 hl⟩
  · refine ⟨1, false, ?_, ?_⟩
    · unfold grapnelref16_Exns.f
      rw [Option.bind_some, if_pos (by omega), grapnelref16_Exns.j0.eq_2, if_pos rfl]
    · exact ⟨fun h => (by cases h), fun h => absurd h.1 h6⟩
theorem rexns_is (es : List S45) : ∃ b : Bool, (b = true ↔ ExnsOk es) ∧ ∀ (A : Option Addr) (c : Nat) (w : World), Kd.C k45 w A es.length es → es.length ≤ c → Calls Try.prog 23 #[.slice A es.length c] w fun e w' => e = .returned (.bool b) ∧ Below w.heap.size w w' := by
  obtain ⟨K, b, h, hb⟩ := rexns_f es
  exact ⟨b, hb, fun A c w hr hc => grapnelref16_Exns.calls K A c es b w hr hc h⟩
end Go.Proofs.Ytmjafkhkoifopaa.C16
end
