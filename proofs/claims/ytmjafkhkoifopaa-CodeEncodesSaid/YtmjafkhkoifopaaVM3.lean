import Derived.Test.YtmjafkhkoifopaaVM2
section
/- The reader of code: an instruction, kind by kind (wip/tools/gen_ca.py wrote these lines). -/
namespace Go.Proofs.Ytmjafkhkoifopaa.C16
open Go.RowKit Go.Proofs.YtmjafkhkoifopaaW.PrintWords Go.Proofs.YtmjafkhkoifopaaW.PrintLast Go.Proofs.YtmjafkhkoifopaaW.PrintMore Go.Proofs.Ytmjafkhkoifopaa.PCodeDecodes
set_option linter.unusedVariables false
set_option linter.unusedSimpArgs false
attribute [local go_sem] max2_mx min2_mn max_two min_two   -- for this text's walks alone

set_option maxRecDepth 100000 in
set_option maxHeartbeats 1000000 in
theorem ins_some20 (w0 W : World) (g : Nat) (bs : List Int) (h : Rd w0 W g bs) (hlen : bs.length ≤ 1048576) (x : Int) (q0 : List Int) (h0 : pNum bs = some (x, q0)) (hf : fieldsOf (opOf x) = 20) (l1 q1 : List Int) (h1 : pList q0 = some (l1, q1)) (l2 q2 : List Int) (h2 : pList q1 = some (l2, q2)) (n : Nat) (q3 : List Int) (h3 : pCount q2 = some (n, q3)) (pl r : List Int) (hx : pPlaces n q3 = some (pl, r)) :
    Calls Try.prog 54 #[.pointer (some ⟨g, 0, none⟩)] W fun e w' => ∃ v3 v4 v5, e = .returned (.agg #[.int .i64 (opOf x), .int .i64 0, .int .i64 0, v3, v4, v5]) ∧ Own 2 w0 W w' v3 l1 ∧ Own 2 w0 W w' v4 l2 ∧ Own 3 w0 W w' v5 pl ∧ Rd w0 w' g r ∧ Kept W w' (fun k => k = g) := by
  have ml0 := pNum_len h0
  have ml1 := pList_len h1
  have ml2 := pList_len h2
  have ml3 := pCount_len h3
  have mn_ := pCount_le h3
  have H := Aside0.mk h
  have HW := Aside0.mk h.base.2.2.size
  have H0 := Aside0.mk h0
  have Hf := Aside0.mk hf
  have H1 := Aside0.mk h1
  have H2 := Aside0.mk h2
  have H3 := Aside0.mk h3
  have HX := Aside0.mk hx
  clear h h0 hf h1 h2 h3 hx
  have hb1 : bits BinOp.and IntKind.i64 20 1 = 0 := by decide
  have hb2 : bits BinOp.and IntKind.i64 20 2 = 0 := by decide
  have hb4 : bits BinOp.and IntKind.i64 20 4 = 4 := by decide
  have hb8 : bits BinOp.and IntKind.i64 20 8 = 0 := by decide
  have hb16 : bits BinOp.and IntKind.i64 20 16 = 16 := by decide
  go_enter Try.func54, Try.ntmps54
  go_wp2_with (first
    | (go_at_call 53; (with_reducible refine (num_some w0 _ g bs (H.out.alloc _) x q0 H0.out).mono ?_); rintro e w1 ⟨rfl, hrd, hk⟩; have HS0 := Aside0.mk (St.start H.out hrd hk (opOf x)); clear hrd hk)
    | (go_at_call 28; refine (fields_is _ 20 Hf.out _).mono ?_; rintro e w' ⟨rfl, ⟨n1, rfl⟩⟩; have HS1 := Aside0.mk (HS0.out.drewN n1); clear HS0)
    | (go_at_call 57; (refine (list_some w0 _ g q0 (HS1.out).rd l1 q1 H1.out (by omega)).mono ?_); rintro e w2 ⟨vN, rfl, ho, hrd, hk⟩; obtain ⟨AN, cN, rfl⟩ := Kd.R_slice ho; have HON := Aside0.mk (Kd.R_mono ho (fun k_ h_ => Nat.le_trans (HS1.out).kept.1 h_)); clear ho; have HS2 := Aside0.mk (show St w0 W w2 g W.heap.size w1.heap.size q1 #[.int .i64 (opOf x), .int .i64 0, .int .i64 0, .slice none 0 0, .slice none 0 0, .slice none 0 0] from (HS1.out).call hrd hk); clear HS1; obtain ⟨hc, hz⟩ := HS2.out.cells; clear hk hrd)
    | (go_at_call 57; (refine (list_some w0 _ g q1 (((HS2.out).store HW.out 3 (.slice AN l1.length cN))).rd l2 q2 H2.out (by omega)).mono ?_); rintro e w3 ⟨vS, rfl, ho, hrd, hk⟩; obtain ⟨AS, cS, rfl⟩ := Kd.R_slice ho; have HOS := Aside0.mk (Kd.R_mono ho (fun k_ h_ => Nat.le_trans (((HS2.out).store HW.out 3 (.slice AN l1.length cN))).kept.1 h_)); clear ho; have HNN := Aside0.mk (own_kept (own_store HON.out (HS2.out).blk (by decide) 3 (.slice AN l1.length cN)) (((HS2.out).store HW.out 3 (.slice AN l1.length cN))).rd (by decide) hk); clear HON; have HON := HNN; clear HNN; have HS3 := Aside0.mk (show St w0 W w3 g W.heap.size w1.heap.size q2 #[.int .i64 (opOf x), .int .i64 0, .int .i64 0, .slice AN l1.length cN, .slice none 0 0, .slice none 0 0] from (((HS2.out).store HW.out 3 (.slice AN l1.length cN))).call hrd hk); clear HS2; clear hc hz; obtain ⟨hc, hz⟩ := HS3.out.cells; clear hk hrd)
    | (go_at_call 51; (refine (cnt_some w0 _ g q2 (((HS3.out).store HW.out 4 (.slice AS l2.length cS))).rd n q3 H3.out).mono ?_); rintro e w4 ⟨rfl, hrd, hk⟩; have HNN := Aside0.mk (own_kept (own_store HON.out (HS3.out).blk (by decide) 4 (.slice AS l2.length cS)) (((HS3.out).store HW.out 4 (.slice AS l2.length cS))).rd (by decide) hk); clear HON; have HON := HNN; clear HNN; have HNS := Aside0.mk (own_kept (own_store HOS.out (HS3.out).blk (by decide) 4 (.slice AS l2.length cS)) (((HS3.out).store HW.out 4 (.slice AS l2.length cS))).rd (by decide) hk); clear HOS; have HOS := HNS; clear HNS; have HS4 := Aside0.mk (show St w0 W w4 g W.heap.size w1.heap.size q3 #[.int .i64 (opOf x), .int .i64 0, .int .i64 0, .slice AN l1.length cN, .slice AS l2.length cS, .slice none 0 0] from (((HS3.out).store HW.out 4 (.slice AS l2.length cS))).call hrd hk); clear HS3; clear hc hz; obtain ⟨hc, hz⟩ := HS4.out.cells; clear hk hrd))
  go_loopw [48] (fun i wr => ∃ (k : Nat) (ys q' : List Int) (v : Value), k ≤ n ∧ i = .int .i64 k ∧ ys.length ≤ k ∧ Aside0 (∃ zs, pPlaces (n - k) q' = some (zs, r) ∧ pl = ys ++ zs) ∧ Aside0 (Own 3 w0 W wr v ys) ∧ Aside0 (St w0 W wr g W.heap.size w1.heap.size q' #[.int .i64 (opOf x), .int .i64 0, .int .i64 0, .slice AN l1.length cN, .slice AS l2.length cS, v]) ∧ Aside0 (Own 2 w0 W wr (.slice AN l1.length cN) l1) ∧ Aside0 (Own 2 w0 W wr (.slice AS l2.length cS) l2))
    (fun i _ => n - (intOf i).toNat)
  case atStart => exact ⟨0, [], q3, .slice none 0 0, Nat.zero_le _, rfl, Nat.le_refl _, ⟨pl, HX.out, rfl⟩, ⟨Kd.R_nil _ _ _ _ _⟩, ⟨show St _ _ _ _ _ _ _ #[.int .i64 (opOf x), .int .i64 0, .int .i64 0, .slice AN l1.length cN, .slice AS l2.length cS, .slice none 0 0] from HS4.out⟩, ⟨HON.out⟩, ⟨HOS.out⟩⟩
  case round =>
    clear HX HS4 hc hz HON HOS
    obtain ⟨k, ys, q', v, hk, rfl, hys, HP, HO, HS, HON, HOS⟩ := hrel
    by_cases hlt : k < n
    · obtain ⟨zs, hz_, hxs⟩ := HP.out
      obtain ⟨m, hm⟩ : ∃ m, n - k = m + 1 := ⟨n - k - 1, by omega⟩
      rw [hm] at hz_
      cases hq : pNum q' with
      | none => simp only [pPlaces, hq] at hz_; cases hz_
      | some p_ =>
        obtain ⟨y, q2_⟩ := p_
        cases hq2 : pPlaces m q2_ with
        | none => simp only [pPlaces, hq, hq2] at hz_; cases hz_
        | some p2_ =>
          obtain ⟨l_, q3_⟩ := p2_
          simp only [pPlaces, hq, hq2, Option.some.injEq, Prod.mk.injEq] at hz_
          obtain ⟨rfl, rfl⟩ := hz_
          have HXS := Aside0.mk hxs
          clear hxs
          have HQ := Aside0.mk hq
          have HQ2 := Aside0.mk hq2
          have HM := Aside0.mk hm
          clear hq hq2 HP hm
          obtain ⟨hc, hz⟩ := HS.out.cells
          go_wp2
          go_region_law (first
            | (refine goes_ (f := 58) Try.func58 (by kernel_rfl) rfl #[.pointer (some ⟨g, 0, none⟩)] (by rfl) rfl rfl (by simp [Act.eval, Act.put]) ?_; refine (place_some w0 _ g q' HS.out.drew.rd y q2_ HQ.out).mono ?_; rintro e w2 ⟨rfl, hrd, hk2⟩; refine ⟨_, rfl, ?_⟩; have HO2 := Aside0.mk (own_kept (Kd.R_drew HO.out) HS.out.drew.rd (by decide) hk2); have HNN := Aside0.mk (own_kept (Kd.R_drew HON.out) HS.out.drew.rd (by decide) hk2); clear HON; have HON := HNN; clear HNN; have HNS := Aside0.mk (own_kept (Kd.R_drew HOS.out) HS.out.drew.rd (by decide) hk2); clear HOS; have HOS := HNS; clear HNS; have HS2 := Aside0.mk (HS.out.drew.call hrd hk2); clear hk2 hrd hc hz; obtain ⟨hc, hz⟩ := HS2.out.cells; have hc5 : ∀ o, (w2.alloc o).cell? ⟨w1.heap.size, 5, none⟩ = some v := cell_alloc ((hc 5).trans rfl))
            | (refine Kd.R_append_step (Kd.int .i64) (w0 := w0) w0.heap.size (by rfl) (.tmp 51) (.tmp 54) 41 3 (.int .i64 0) 8 rfl Try.underlying41 info3 rfl (by decide) (by omega) v ys (clamp y) [.int .i64 (clamp y)] (fun k => W.heap.size ≤ k) (fun _ => False) (by rfl) (by rfl) ?aP (fun _ hk => hk.elim) ?aF ?aO ?aB ?aS ?aL ?_; (case aP => exact rfl); (case aF => exact (fun k h => Nat.le_trans HS2.out.kept.1 h)); (case aO => exact HO2.out); (case aB => exact HS2.out.rd.base.2.2); (case aS => exact HS2.out.rd.base.2.2.size); (case aL => omega); intro v1 w3 ho hb hg hat; obtain ⟨A5, c5, rfl⟩ := Kd.R_slice ho; rw [show (ys ++ [clamp y]).length = ys.length + 1 from List.length_append] at ho hat; have HO3 := Aside0.mk ho; have HNN := Aside0.mk (own_grown HON.out HO2.out (by decide) hg); clear HON; have HON := HNN; clear HNN; have HNS := Aside0.mk (own_grown HOS.out HO2.out (by decide) hg); clear HOS; have HOS := HNS; clear HNS; have HS3 := Aside0.mk (HS2.out.grown HO2.out (by decide) (by decide) hg hb); clear ho hb hg hat hc hz hc5; obtain ⟨hc, hz⟩ := HS3.out.cells))
          all_goals
            go_wp2
            go_roundw
            case rel => exact ⟨k + 1, ys ++ [clamp y], q2_, .slice A5 (ys.length + 1) c5, by omega, by go_num, by simp; omega, ⟨l_, by rw [show n - (k + 1) = m by have := HM.out; omega]; exact HQ2.out, by rw [HXS.out]; simp⟩, ⟨own_store HO3.out HS3.out.blk (by decide) 5 _⟩, ⟨show St _ _ _ _ _ _ _ #[.int .i64 (opOf x), .int .i64 0, .int .i64 0, .slice AN l1.length cN, .slice AS l2.length cS, .slice A5 (ys.length + 1) c5] from HS3.out.store HW.out 5 _⟩, ⟨own_store HON.out HS3.out.blk (by decide) 5 _⟩, ⟨own_store HOS.out HS3.out.blk (by decide) 5 _⟩⟩
            case measure => simp [intOf]; omega
    · obtain ⟨A5, c5, rfl⟩ := Kd.R_slice HO.out
      obtain ⟨hc, hz⟩ := HS.out.cells
      have hr1 := fun j => blk_cell HS.out.res j
      have hr2 := fun j => blk_frozen HS.out.res j
      go_wp2
      obtain ⟨zs, hz_, hxs⟩ := HP.out
      rw [show n - k = 0 by omega] at hz_
      cases hz_
      rw [List.append_nil] at hxs
      subst hxs
      refine bodyPost_ret (v := .agg #[.int .i64 (opOf x), .int .i64 0, .int .i64 0, .slice AN l1.length cN, .slice AS l2.length cS, .slice A5 pl.length c5]) (by simp [results, Try.results54, go_sem, hc, hz, hr1, hr2]) rfl ⟨_, _, _, rfl, ?_, ?_, ?_, ?_, ?_⟩
      · exact own_final HON.out HS.out (by decide)
      · exact own_final HOS.out HS.out (by decide)
      · exact own_final HO.out HS.out (by decide)
      · exact (HS.out.final HW.out).1
      · exact (HS.out.final HW.out).2
set_option maxRecDepth 100000 in
set_option maxHeartbeats 1000000 in
theorem ins_some17 (w0 W : World) (g : Nat) (bs : List Int) (h : Rd w0 W g bs) (hlen : bs.length ≤ 1048576) (x : Int) (q0 : List Int) (h0 : pNum bs = some (x, q0)) (hf : fieldsOf (opOf x) = 17) (a1 : Int) (q1 : List Int) (h1 : pNum q0 = some (a1, q1)) (n : Nat) (q2 : List Int) (h2 : pCount q1 = some (n, q2)) (pl r : List Int) (hx : pPlaces n q2 = some (pl, r)) :
    Calls Try.prog 54 #[.pointer (some ⟨g, 0, none⟩)] W fun e w' => ∃ v3 v4 v5, e = .returned (.agg #[.int .i64 (opOf x), .int .i64 a1, .int .i64 0, v3, v4, v5]) ∧ Own 2 w0 W w' v3 [] ∧ Own 2 w0 W w' v4 [] ∧ Own 3 w0 W w' v5 pl ∧ Rd w0 w' g r ∧ Kept W w' (fun k => k = g) := by
  have ml0 := pNum_len h0
  have ml1 := pNum_len h1
  have ml2 := pCount_len h2
  have mn_ := pCount_le h2
  have H := Aside0.mk h
  have HW := Aside0.mk h.base.2.2.size
  have H0 := Aside0.mk h0
  have Hf := Aside0.mk hf
  have H1 := Aside0.mk h1
  have H2 := Aside0.mk h2
  have HX := Aside0.mk hx
  clear h h0 hf h1 h2 hx
  have hb1 : bits BinOp.and IntKind.i64 17 1 = 1 := by decide
  have hb2 : bits BinOp.and IntKind.i64 17 2 = 0 := by decide
  have hb4 : bits BinOp.and IntKind.i64 17 4 = 0 := by decide
  have hb8 : bits BinOp.and IntKind.i64 17 8 = 0 := by decide
  have hb16 : bits BinOp.and IntKind.i64 17 16 = 16 := by decide
  go_enter Try.func54, Try.ntmps54
  go_wp2_with (first
    | (go_at_call 53; (with_reducible refine (num_some w0 _ g bs (H.out.alloc _) x q0 H0.out).mono ?_); rintro e w1 ⟨rfl, hrd, hk⟩; have HS0 := Aside0.mk (St.start H.out hrd hk (opOf x)); clear hrd hk)
    | (go_at_call 28; refine (fields_is _ 17 Hf.out _).mono ?_; rintro e w' ⟨rfl, ⟨n1, rfl⟩⟩; have HS1 := Aside0.mk (HS0.out.drewN n1); clear HS0)
    | (go_at_call 53; (refine (num_some w0 _ g q0 (HS1.out).rd a1 q1 H1.out).mono ?_); rintro e w2 ⟨rfl, hrd, hk⟩; have HS2 := Aside0.mk (show St w0 W w2 g W.heap.size w1.heap.size q1 #[.int .i64 (opOf x), .int .i64 0, .int .i64 0, .slice none 0 0, .slice none 0 0, .slice none 0 0] from (HS1.out).call hrd hk); clear HS1; obtain ⟨hc, hz⟩ := HS2.out.cells; clear hk hrd)
    | (go_at_call 51; (refine (cnt_some w0 _ g q1 (((HS2.out).store HW.out 1 (.int .i64 a1))).rd n q2 H2.out).mono ?_); rintro e w3 ⟨rfl, hrd, hk⟩; have HS3 := Aside0.mk (show St w0 W w3 g W.heap.size w1.heap.size q2 #[.int .i64 (opOf x), .int .i64 a1, .int .i64 0, .slice none 0 0, .slice none 0 0, .slice none 0 0] from (((HS2.out).store HW.out 1 (.int .i64 a1))).call hrd hk); clear HS2; clear hc hz; obtain ⟨hc, hz⟩ := HS3.out.cells; clear hk hrd))
  go_loopw [48] (fun i wr => ∃ (k : Nat) (ys q' : List Int) (v : Value), k ≤ n ∧ i = .int .i64 k ∧ ys.length ≤ k ∧ Aside0 (∃ zs, pPlaces (n - k) q' = some (zs, r) ∧ pl = ys ++ zs) ∧ Aside0 (Own 3 w0 W wr v ys) ∧ Aside0 (St w0 W wr g W.heap.size w1.heap.size q' #[.int .i64 (opOf x), .int .i64 a1, .int .i64 0, .slice none 0 0, .slice none 0 0, v]))
    (fun i _ => n - (intOf i).toNat)
  case atStart => exact ⟨0, [], q2, .slice none 0 0, Nat.zero_le _, rfl, Nat.le_refl _, ⟨pl, HX.out, rfl⟩, ⟨Kd.R_nil _ _ _ _ _⟩, ⟨show St _ _ _ _ _ _ _ #[.int .i64 (opOf x), .int .i64 a1, .int .i64 0, .slice none 0 0, .slice none 0 0, .slice none 0 0] from HS3.out⟩⟩
  case round =>
    clear HX HS3 hc hz
    obtain ⟨k, ys, q', v, hk, rfl, hys, HP, HO, HS⟩ := hrel
    by_cases hlt : k < n
    · obtain ⟨zs, hz_, hxs⟩ := HP.out
      obtain ⟨m, hm⟩ : ∃ m, n - k = m + 1 := ⟨n - k - 1, by omega⟩
      rw [hm] at hz_
      cases hq : pNum q' with
      | none => simp only [pPlaces, hq] at hz_; cases hz_
      | some p_ =>
        obtain ⟨y, q2_⟩ := p_
        cases hq2 : pPlaces m q2_ with
        | none => simp only [pPlaces, hq, hq2] at hz_; cases hz_
        | some p2_ =>
          obtain ⟨l_, q3_⟩ := p2_
          simp only [pPlaces, hq, hq2, Option.some.injEq, Prod.mk.injEq] at hz_
          obtain ⟨rfl, rfl⟩ := hz_
          have HXS := Aside0.mk hxs
          clear hxs
          have HQ := Aside0.mk hq
          have HQ2 := Aside0.mk hq2
          have HM := Aside0.mk hm
          clear hq hq2 HP hm
          obtain ⟨hc, hz⟩ := HS.out.cells
          go_wp2
          go_region_law (first
            | (refine goes_ (f := 58) Try.func58 (by kernel_rfl) rfl #[.pointer (some ⟨g, 0, none⟩)] (by rfl) rfl rfl (by simp [Act.eval, Act.put]) ?_; refine (place_some w0 _ g q' HS.out.drew.rd y q2_ HQ.out).mono ?_; rintro e w2 ⟨rfl, hrd, hk2⟩; refine ⟨_, rfl, ?_⟩; have HO2 := Aside0.mk (own_kept (Kd.R_drew HO.out) HS.out.drew.rd (by decide) hk2); have HS2 := Aside0.mk (HS.out.drew.call hrd hk2); clear hk2 hrd hc hz; obtain ⟨hc, hz⟩ := HS2.out.cells; have hc5 : ∀ o, (w2.alloc o).cell? ⟨w1.heap.size, 5, none⟩ = some v := cell_alloc ((hc 5).trans rfl))
            | (refine Kd.R_append_step (Kd.int .i64) (w0 := w0) w0.heap.size (by rfl) (.tmp 51) (.tmp 54) 41 3 (.int .i64 0) 8 rfl Try.underlying41 info3 rfl (by decide) (by omega) v ys (clamp y) [.int .i64 (clamp y)] (fun k => W.heap.size ≤ k) (fun _ => False) (by rfl) (by rfl) ?aP (fun _ hk => hk.elim) ?aF ?aO ?aB ?aS ?aL ?_; (case aP => exact rfl); (case aF => exact (fun k h => Nat.le_trans HS2.out.kept.1 h)); (case aO => exact HO2.out); (case aB => exact HS2.out.rd.base.2.2); (case aS => exact HS2.out.rd.base.2.2.size); (case aL => omega); intro v1 w3 ho hb hg hat; obtain ⟨A5, c5, rfl⟩ := Kd.R_slice ho; rw [show (ys ++ [clamp y]).length = ys.length + 1 from List.length_append] at ho hat; have HO3 := Aside0.mk ho; have HS3 := Aside0.mk (HS2.out.grown HO2.out (by decide) (by decide) hg hb); clear ho hb hg hat hc hz hc5; obtain ⟨hc, hz⟩ := HS3.out.cells))
          all_goals
            go_wp2
            go_roundw
            case rel => exact ⟨k + 1, ys ++ [clamp y], q2_, .slice A5 (ys.length + 1) c5, by omega, by go_num, by simp; omega, ⟨l_, by rw [show n - (k + 1) = m by have := HM.out; omega]; exact HQ2.out, by rw [HXS.out]; simp⟩, ⟨own_store HO3.out HS3.out.blk (by decide) 5 _⟩, ⟨show St _ _ _ _ _ _ _ #[.int .i64 (opOf x), .int .i64 a1, .int .i64 0, .slice none 0 0, .slice none 0 0, .slice A5 (ys.length + 1) c5] from HS3.out.store HW.out 5 _⟩⟩
            case measure => simp [intOf]; omega
    · obtain ⟨A5, c5, rfl⟩ := Kd.R_slice HO.out
      obtain ⟨hc, hz⟩ := HS.out.cells
      have hr1 := fun j => blk_cell HS.out.res j
      have hr2 := fun j => blk_frozen HS.out.res j
      go_wp2
      obtain ⟨zs, hz_, hxs⟩ := HP.out
      rw [show n - k = 0 by omega] at hz_
      cases hz_
      rw [List.append_nil] at hxs
      subst hxs
      refine bodyPost_ret (v := .agg #[.int .i64 (opOf x), .int .i64 a1, .int .i64 0, .slice none 0 0, .slice none 0 0, .slice A5 pl.length c5]) (by simp [results, Try.results54, go_sem, hc, hz, hr1, hr2]) rfl ⟨_, _, _, rfl, ?_, ?_, ?_, ?_, ?_⟩
      · exact Kd.R_nil _ _ _ _ _
      · exact Kd.R_nil _ _ _ _ _
      · exact own_final HO.out HS.out (by decide)
      · exact (HS.out.final HW.out).1
      · exact (HS.out.final HW.out).2
set_option maxRecDepth 100000 in
set_option maxHeartbeats 1000000 in
theorem ins_some0 (w0 W : World) (g : Nat) (bs : List Int) (h : Rd w0 W g bs) (hlen : bs.length ≤ 1048576) (x : Int) (q0 : List Int) (h0 : pNum bs = some (x, q0)) (hf : fieldsOf (opOf x) = 0) (pl r : List Int) (hx : pPlaces 0 q0 = some (pl, r)) :
    Calls Try.prog 54 #[.pointer (some ⟨g, 0, none⟩)] W fun e w' => ∃ v3 v4 v5, e = .returned (.agg #[.int .i64 (opOf x), .int .i64 0, .int .i64 0, v3, v4, v5]) ∧ Own 2 w0 W w' v3 [] ∧ Own 2 w0 W w' v4 [] ∧ Own 3 w0 W w' v5 pl ∧ Rd w0 w' g r ∧ Kept W w' (fun k => k = g) := by
  have ml0 := pNum_len h0
  have H := Aside0.mk h
  have HW := Aside0.mk h.base.2.2.size
  have H0 := Aside0.mk h0
  have Hf := Aside0.mk hf
  have HX := Aside0.mk hx
  clear h h0 hf hx
  have hb1 : bits BinOp.and IntKind.i64 0 1 = 0 := by decide
  have hb2 : bits BinOp.and IntKind.i64 0 2 = 0 := by decide
  have hb4 : bits BinOp.and IntKind.i64 0 4 = 0 := by decide
  have hb8 : bits BinOp.and IntKind.i64 0 8 = 0 := by decide
  have hb16 : bits BinOp.and IntKind.i64 0 16 = 0 := by decide
  go_enter Try.func54, Try.ntmps54
  go_wp2_with (first
    | (go_at_call 53; (with_reducible refine (num_some w0 _ g bs (H.out.alloc _) x q0 H0.out).mono ?_); rintro e w1 ⟨rfl, hrd, hk⟩; have HS0 := Aside0.mk (St.start H.out hrd hk (opOf x)); clear hrd hk)
    | (go_at_call 28; refine (fields_is _ 0 Hf.out _).mono ?_; rintro e w' ⟨rfl, ⟨n1, rfl⟩⟩; have HS1 := Aside0.mk (HS0.out.drewN n1); clear HS0))
  go_loopw [48] (fun i wr => ∃ (k : Nat) (ys q' : List Int) (v : Value), k ≤ 0 ∧ i = .int .i64 k ∧ ys.length ≤ k ∧ Aside0 (∃ zs, pPlaces (0 - k) q' = some (zs, r) ∧ pl = ys ++ zs) ∧ Aside0 (Own 3 w0 W wr v ys) ∧ Aside0 (St w0 W wr g W.heap.size w1.heap.size q' #[.int .i64 (opOf x), .int .i64 0, .int .i64 0, .slice none 0 0, .slice none 0 0, v]))
    (fun i _ => 0 - (intOf i).toNat)
  case atStart => exact ⟨0, [], q0, .slice none 0 0, Nat.zero_le _, rfl, Nat.le_refl _, ⟨pl, HX.out, rfl⟩, ⟨Kd.R_nil _ _ _ _ _⟩, ⟨show St _ _ _ _ _ _ _ #[.int .i64 (opOf x), .int .i64 0, .int .i64 0, .slice none 0 0, .slice none 0 0, .slice none 0 0] from HS1.out⟩⟩
  case round =>
    clear HX HS1
    obtain ⟨k, ys, q', v, hk, rfl, hys, HP, HO, HS⟩ := hrel
    by_cases hlt : k < 0
    · exact absurd hlt (by omega)
    · obtain ⟨A5, c5, rfl⟩ := Kd.R_slice HO.out
      obtain ⟨hc, hz⟩ := HS.out.cells
      have hr1 := fun j => blk_cell HS.out.res j
      have hr2 := fun j => blk_frozen HS.out.res j
      go_wp2
      obtain ⟨zs, hz_, hxs⟩ := HP.out
      rw [show 0 - k = 0 by omega] at hz_
      cases hz_
      rw [List.append_nil] at hxs
      subst hxs
      refine bodyPost_ret (v := .agg #[.int .i64 (opOf x), .int .i64 0, .int .i64 0, .slice none 0 0, .slice none 0 0, .slice A5 pl.length c5]) (by simp [results, Try.results54, go_sem, hc, hz, hr1, hr2]) rfl ⟨_, _, _, rfl, ?_, ?_, ?_, ?_, ?_⟩
      · exact Kd.R_nil _ _ _ _ _
      · exact Kd.R_nil _ _ _ _ _
      · exact own_final HO.out HS.out (by decide)
      · exact (HS.out.final HW.out).1
      · exact (HS.out.final HW.out).2
end Go.Proofs.Ytmjafkhkoifopaa.C16
end
section
/- The reader of code: an instruction, kind by kind (wip/tools/gen_ca.py wrote these lines). -/
namespace Go.Proofs.Ytmjafkhkoifopaa.C16
open Go.RowKit Go.Proofs.YtmjafkhkoifopaaW.PrintWords Go.Proofs.YtmjafkhkoifopaaW.PrintLast Go.Proofs.YtmjafkhkoifopaaW.PrintMore Go.Proofs.Ytmjafkhkoifopaa.PCodeDecodes
set_option linter.unusedVariables false
set_option linter.unusedSimpArgs false
attribute [local go_sem] max2_mx min2_mn max_two min_two   -- for this text's walks alone

set_option maxRecDepth 100000 in
set_option maxHeartbeats 1000000 in
theorem ins_some1 (w0 W : World) (g : Nat) (bs : List Int) (h : Rd w0 W g bs) (hlen : bs.length ≤ 1048576) (x : Int) (q0 : List Int) (h0 : pNum bs = some (x, q0)) (hf : fieldsOf (opOf x) = 1) (a1 : Int) (q1 : List Int) (h1 : pNum q0 = some (a1, q1)) (pl r : List Int) (hx : pPlaces 0 q1 = some (pl, r)) :
    Calls Try.prog 54 #[.pointer (some ⟨g, 0, none⟩)] W fun e w' => ∃ v3 v4 v5, e = .returned (.agg #[.int .i64 (opOf x), .int .i64 a1, .int .i64 0, v3, v4, v5]) ∧ Own 2 w0 W w' v3 [] ∧ Own 2 w0 W w' v4 [] ∧ Own 3 w0 W w' v5 pl ∧ Rd w0 w' g r ∧ Kept W w' (fun k => k = g) := by
  have ml0 := pNum_len h0
  have ml1 := pNum_len h1
  have H := Aside0.mk h
  have HW := Aside0.mk h.base.2.2.size
  have H0 := Aside0.mk h0
  have Hf := Aside0.mk hf
  have H1 := Aside0.mk h1
  have HX := Aside0.mk hx
  clear h h0 hf h1 hx
  have hb1 : bits BinOp.and IntKind.i64 1 1 = 1 := by decide
  have hb2 : bits BinOp.and IntKind.i64 1 2 = 0 := by decide
  have hb4 : bits BinOp.and IntKind.i64 1 4 = 0 := by decide
  have hb8 : bits BinOp.and IntKind.i64 1 8 = 0 := by decide
  have hb16 : bits BinOp.and IntKind.i64 1 16 = 0 := by decide
  go_enter Try.func54, Try.ntmps54
  go_wp2_with (first
    | (go_at_call 53; (with_reducible refine (num_some w0 _ g bs (H.out.alloc _) x q0 H0.out).mono ?_); rintro e w1 ⟨rfl, hrd, hk⟩; have HS0 := Aside0.mk (St.start H.out hrd hk (opOf x)); clear hrd hk)
    | (go_at_call 28; refine (fields_is _ 1 Hf.out _).mono ?_; rintro e w' ⟨rfl, ⟨n1, rfl⟩⟩; have HS1 := Aside0.mk (HS0.out.drewN n1); clear HS0)
    | (go_at_call 53; (refine (num_some w0 _ g q0 (HS1.out).rd a1 q1 H1.out).mono ?_); rintro e w2 ⟨rfl, hrd, hk⟩; have HS2 := Aside0.mk (show St w0 W w2 g W.heap.size w1.heap.size q1 #[.int .i64 (opOf x), .int .i64 0, .int .i64 0, .slice none 0 0, .slice none 0 0, .slice none 0 0] from (HS1.out).call hrd hk); clear HS1; obtain ⟨hc, hz⟩ := HS2.out.cells; clear hk hrd))
  go_loopw [48] (fun i wr => ∃ (k : Nat) (ys q' : List Int) (v : Value), k ≤ 0 ∧ i = .int .i64 k ∧ ys.length ≤ k ∧ Aside0 (∃ zs, pPlaces (0 - k) q' = some (zs, r) ∧ pl = ys ++ zs) ∧ Aside0 (Own 3 w0 W wr v ys) ∧ Aside0 (St w0 W wr g W.heap.size w1.heap.size q' #[.int .i64 (opOf x), .int .i64 a1, .int .i64 0, .slice none 0 0, .slice none 0 0, v]))
    (fun i _ => 0 - (intOf i).toNat)
  case atStart => exact ⟨0, [], q1, .slice none 0 0, Nat.zero_le _, rfl, Nat.le_refl _, ⟨pl, HX.out, rfl⟩, ⟨Kd.R_nil _ _ _ _ _⟩, ⟨show St _ _ _ _ _ _ _ #[.int .i64 (opOf x), .int .i64 a1, .int .i64 0, .slice none 0 0, .slice none 0 0, .slice none 0 0] from ((HS2.out).store HW.out 1 (.int .i64 a1))⟩⟩
  case round =>
    clear HX HS2 hc hz
    obtain ⟨k, ys, q', v, hk, rfl, hys, HP, HO, HS⟩ := hrel
    by_cases hlt : k < 0
    · exact absurd hlt (by omega)
    · obtain ⟨A5, c5, rfl⟩ := Kd.R_slice HO.out
      obtain ⟨hc, hz⟩ := HS.out.cells
      have hr1 := fun j => blk_cell HS.out.res j
      have hr2 := fun j => blk_frozen HS.out.res j
      go_wp2
      obtain ⟨zs, hz_, hxs⟩ := HP.out
      rw [show 0 - k = 0 by omega] at hz_
      cases hz_
      rw [List.append_nil] at hxs
      subst hxs
      refine bodyPost_ret (v := .agg #[.int .i64 (opOf x), .int .i64 a1, .int .i64 0, .slice none 0 0, .slice none 0 0, .slice A5 pl.length c5]) (by simp [results, Try.results54, go_sem, hc, hz, hr1, hr2]) rfl ⟨_, _, _, rfl, ?_, ?_, ?_, ?_, ?_⟩
      · exact Kd.R_nil _ _ _ _ _
      · exact Kd.R_nil _ _ _ _ _
      · exact own_final HO.out HS.out (by decide)
      · exact (HS.out.final HW.out).1
      · exact (HS.out.final HW.out).2
set_option maxRecDepth 100000 in
set_option maxHeartbeats 1000000 in
theorem ins_some3 (w0 W : World) (g : Nat) (bs : List Int) (h : Rd w0 W g bs) (hlen : bs.length ≤ 1048576) (x : Int) (q0 : List Int) (h0 : pNum bs = some (x, q0)) (hf : fieldsOf (opOf x) = 3) (a1 : Int) (q1 : List Int) (h1 : pNum q0 = some (a1, q1)) (a2 : Int) (q2 : List Int) (h2 : pNum q1 = some (a2, q2)) (pl r : List Int) (hx : pPlaces 0 q2 = some (pl, r)) :
    Calls Try.prog 54 #[.pointer (some ⟨g, 0, none⟩)] W fun e w' => ∃ v3 v4 v5, e = .returned (.agg #[.int .i64 (opOf x), .int .i64 a1, .int .i64 a2, v3, v4, v5]) ∧ Own 2 w0 W w' v3 [] ∧ Own 2 w0 W w' v4 [] ∧ Own 3 w0 W w' v5 pl ∧ Rd w0 w' g r ∧ Kept W w' (fun k => k = g) := by
  have ml0 := pNum_len h0
  have ml1 := pNum_len h1
  have ml2 := pNum_len h2
  have H := Aside0.mk h
  have HW := Aside0.mk h.base.2.2.size
  have H0 := Aside0.mk h0
  have Hf := Aside0.mk hf
  have H1 := Aside0.mk h1
  have H2 := Aside0.mk h2
  have HX := Aside0.mk hx
  clear h h0 hf h1 h2 hx
  have hb1 : bits BinOp.and IntKind.i64 3 1 = 1 := by decide
  have hb2 : bits BinOp.and IntKind.i64 3 2 = 2 := by decide
  have hb4 : bits BinOp.and IntKind.i64 3 4 = 0 := by decide
  have hb8 : bits BinOp.and IntKind.i64 3 8 = 0 := by decide
  have hb16 : bits BinOp.and IntKind.i64 3 16 = 0 := by decide
  go_enter Try.func54, Try.ntmps54
  go_wp2_with (first
    | (go_at_call 53; (with_reducible refine (num_some w0 _ g bs (H.out.alloc _) x q0 H0.out).mono ?_); rintro e w1 ⟨rfl, hrd, hk⟩; have HS0 := Aside0.mk (St.start H.out hrd hk (opOf x)); clear hrd hk)
    | (go_at_call 28; refine (fields_is _ 3 Hf.out _).mono ?_; rintro e w' ⟨rfl, ⟨n1, rfl⟩⟩; have HS1 := Aside0.mk (HS0.out.drewN n1); clear HS0)
    | (go_at_call 53; (refine (num_some w0 _ g q0 (HS1.out).rd a1 q1 H1.out).mono ?_); rintro e w2 ⟨rfl, hrd, hk⟩; have HS2 := Aside0.mk (show St w0 W w2 g W.heap.size w1.heap.size q1 #[.int .i64 (opOf x), .int .i64 0, .int .i64 0, .slice none 0 0, .slice none 0 0, .slice none 0 0] from (HS1.out).call hrd hk); clear HS1; obtain ⟨hc, hz⟩ := HS2.out.cells; clear hk hrd)
    | (go_at_call 53; (refine (num_some w0 _ g q1 (((HS2.out).store HW.out 1 (.int .i64 a1))).rd a2 q2 H2.out).mono ?_); rintro e w3 ⟨rfl, hrd, hk⟩; have HS3 := Aside0.mk (show St w0 W w3 g W.heap.size w1.heap.size q2 #[.int .i64 (opOf x), .int .i64 a1, .int .i64 0, .slice none 0 0, .slice none 0 0, .slice none 0 0] from (((HS2.out).store HW.out 1 (.int .i64 a1))).call hrd hk); clear HS2; clear hc hz; obtain ⟨hc, hz⟩ := HS3.out.cells; clear hk hrd))
  go_loopw [48] (fun i wr => ∃ (k : Nat) (ys q' : List Int) (v : Value), k ≤ 0 ∧ i = .int .i64 k ∧ ys.length ≤ k ∧ Aside0 (∃ zs, pPlaces (0 - k) q' = some (zs, r) ∧ pl = ys ++ zs) ∧ Aside0 (Own 3 w0 W wr v ys) ∧ Aside0 (St w0 W wr g W.heap.size w1.heap.size q' #[.int .i64 (opOf x), .int .i64 a1, .int .i64 a2, .slice none 0 0, .slice none 0 0, v]))
    (fun i _ => 0 - (intOf i).toNat)
  case atStart => exact ⟨0, [], q2, .slice none 0 0, Nat.zero_le _, rfl, Nat.le_refl _, ⟨pl, HX.out, rfl⟩, ⟨Kd.R_nil _ _ _ _ _⟩, ⟨show St _ _ _ _ _ _ _ #[.int .i64 (opOf x), .int .i64 a1, .int .i64 a2, .slice none 0 0, .slice none 0 0, .slice none 0 0] from ((HS3.out).store HW.out 2 (.int .i64 a2))⟩⟩
  case round =>
    clear HX HS3 hc hz
    obtain ⟨k, ys, q', v, hk, rfl, hys, HP, HO, HS⟩ := hrel
    by_cases hlt : k < 0
    · exact absurd hlt (by omega)
    · obtain ⟨A5, c5, rfl⟩ := Kd.R_slice HO.out
      obtain ⟨hc, hz⟩ := HS.out.cells
      have hr1 := fun j => blk_cell HS.out.res j
      have hr2 := fun j => blk_frozen HS.out.res j
      go_wp2
      obtain ⟨zs, hz_, hxs⟩ := HP.out
      rw [show 0 - k = 0 by omega] at hz_
      cases hz_
      rw [List.append_nil] at hxs
      subst hxs
      refine bodyPost_ret (v := .agg #[.int .i64 (opOf x), .int .i64 a1, .int .i64 a2, .slice none 0 0, .slice none 0 0, .slice A5 pl.length c5]) (by simp [results, Try.results54, go_sem, hc, hz, hr1, hr2]) rfl ⟨_, _, _, rfl, ?_, ?_, ?_, ?_, ?_⟩
      · exact Kd.R_nil _ _ _ _ _
      · exact Kd.R_nil _ _ _ _ _
      · exact own_final HO.out HS.out (by decide)
      · exact (HS.out.final HW.out).1
      · exact (HS.out.final HW.out).2
set_option maxRecDepth 100000 in
set_option maxHeartbeats 1000000 in
theorem ins_some8 (w0 W : World) (g : Nat) (bs : List Int) (h : Rd w0 W g bs) (hlen : bs.length ≤ 1048576) (x : Int) (q0 : List Int) (h0 : pNum bs = some (x, q0)) (hf : fieldsOf (opOf x) = 8) (pl r : List Int) (hx : pPlaces 1 q0 = some (pl, r)) :
    Calls Try.prog 54 #[.pointer (some ⟨g, 0, none⟩)] W fun e w' => ∃ v3 v4 v5, e = .returned (.agg #[.int .i64 (opOf x), .int .i64 0, .int .i64 0, v3, v4, v5]) ∧ Own 2 w0 W w' v3 [] ∧ Own 2 w0 W w' v4 [] ∧ Own 3 w0 W w' v5 pl ∧ Rd w0 w' g r ∧ Kept W w' (fun k => k = g) := by
  have ml0 := pNum_len h0
  have H := Aside0.mk h
  have HW := Aside0.mk h.base.2.2.size
  have H0 := Aside0.mk h0
  have Hf := Aside0.mk hf
  have HX := Aside0.mk hx
  clear h h0 hf hx
  have hb1 : bits BinOp.and IntKind.i64 8 1 = 0 := by decide
  have hb2 : bits BinOp.and IntKind.i64 8 2 = 0 := by decide
  have hb4 : bits BinOp.and IntKind.i64 8 4 = 0 := by decide
  have hb8 : bits BinOp.and IntKind.i64 8 8 = 8 := by decide
  have hb16 : bits BinOp.and IntKind.i64 8 16 = 0 := by decide
  go_enter Try.func54, Try.ntmps54
  go_wp2_with (first
    | (go_at_call 53; (with_reducible refine (num_some w0 _ g bs (H.out.alloc _) x q0 H0.out).mono ?_); rintro e w1 ⟨rfl, hrd, hk⟩; have HS0 := Aside0.mk (St.start H.out hrd hk (opOf x)); clear hrd hk)
    | (go_at_call 28; refine (fields_is _ 8 Hf.out _).mono ?_; rintro e w' ⟨rfl, ⟨n1, rfl⟩⟩; have HS1 := Aside0.mk (HS0.out.drewN n1); clear HS0))
  go_loopw [48] (fun i wr => ∃ (k : Nat) (ys q' : List Int) (v : Value), k ≤ 1 ∧ i = .int .i64 k ∧ ys.length ≤ k ∧ Aside0 (∃ zs, pPlaces (1 - k) q' = some (zs, r) ∧ pl = ys ++ zs) ∧ Aside0 (Own 3 w0 W wr v ys) ∧ Aside0 (St w0 W wr g W.heap.size w1.heap.size q' #[.int .i64 (opOf x), .int .i64 0, .int .i64 0, .slice none 0 0, .slice none 0 0, v]))
    (fun i _ => 1 - (intOf i).toNat)
  case atStart => exact ⟨0, [], q0, .slice none 0 0, Nat.zero_le _, rfl, Nat.le_refl _, ⟨pl, HX.out, rfl⟩, ⟨Kd.R_nil _ _ _ _ _⟩, ⟨show St _ _ _ _ _ _ _ #[.int .i64 (opOf x), .int .i64 0, .int .i64 0, .slice none 0 0, .slice none 0 0, .slice none 0 0] from HS1.out⟩⟩
  case round =>
    clear HX HS1
    obtain ⟨k, ys, q', v, hk, rfl, hys, HP, HO, HS⟩ := hrel
    by_cases hlt : k < 1
    · obtain ⟨zs, hz_, hxs⟩ := HP.out
      obtain ⟨m, hm⟩ : ∃ m, 1 - k = m + 1 := ⟨1 - k - 1, by omega⟩
      rw [hm] at hz_
      cases hq : pNum q' with
      | none => simp only [pPlaces, hq] at hz_; cases hz_
      | some p_ =>
        obtain ⟨y, q2_⟩ := p_
        cases hq2 : pPlaces m q2_ with
        | none => simp only [pPlaces, hq, hq2] at hz_; cases hz_
        | some p2_ =>
          obtain ⟨l_, q3_⟩ := p2_
          simp only [pPlaces, hq, hq2, Option.some.injEq, Prod.mk.injEq] at hz_
          obtain ⟨rfl, rfl⟩ := hz_
          have HXS := Aside0.mk hxs
          clear hxs
          have HQ := Aside0.mk hq
          have HQ2 := Aside0.mk hq2
          have HM := Aside0.mk hm
          clear hq hq2 HP hm
          obtain ⟨hc, hz⟩ := HS.out.cells
          go_wp2
          go_region_law (first
            | (refine goes_ (f := 58) Try.func58 (by kernel_rfl) rfl #[.pointer (some ⟨g, 0, none⟩)] (by rfl) rfl rfl (by simp [Act.eval, Act.put]) ?_; refine (place_some w0 _ g q' HS.out.drew.rd y q2_ HQ.out).mono ?_; rintro e w2 ⟨rfl, hrd, hk2⟩; refine ⟨_, rfl, ?_⟩; have HO2 := Aside0.mk (own_kept (Kd.R_drew HO.out) HS.out.drew.rd (by decide) hk2); have HS2 := Aside0.mk (HS.out.drew.call hrd hk2); clear hk2 hrd hc hz; obtain ⟨hc, hz⟩ := HS2.out.cells; have hc5 : ∀ o, (w2.alloc o).cell? ⟨w1.heap.size, 5, none⟩ = some v := cell_alloc ((hc 5).trans rfl))
            | (refine Kd.R_append_step (Kd.int .i64) (w0 := w0) w0.heap.size (by rfl) (.tmp 51) (.tmp 54) 41 3 (.int .i64 0) 8 rfl Try.underlying41 info3 rfl (by decide) (by omega) v ys (clamp y) [.int .i64 (clamp y)] (fun k => W.heap.size ≤ k) (fun _ => False) (by rfl) (by rfl) ?aP (fun _ hk => hk.elim) ?aF ?aO ?aB ?aS ?aL ?_; (case aP => exact rfl); (case aF => exact (fun k h => Nat.le_trans HS2.out.kept.1 h)); (case aO => exact HO2.out); (case aB => exact HS2.out.rd.base.2.2); (case aS => exact HS2.out.rd.base.2.2.size); (case aL => omega); intro v1 w3 ho hb hg hat; obtain ⟨A5, c5, rfl⟩ := Kd.R_slice ho; rw [show (ys ++ [clamp y]).length = ys.length + 1 from List.length_append] at ho hat; have HO3 := Aside0.mk ho; have HS3 := Aside0.mk (HS2.out.grown HO2.out (by decide) (by decide) hg hb); clear ho hb hg hat hc hz hc5; obtain ⟨hc, hz⟩ := HS3.out.cells))
          all_goals
            go_wp2
            go_roundw
            case rel => exact ⟨k + 1, ys ++ [clamp y], q2_, .slice A5 (ys.length + 1) c5, by omega, by go_num, by simp; omega, ⟨l_, by rw [show 1 - (k + 1) = m by have := HM.out; omega]; exact HQ2.out, by rw [HXS.out]; simp⟩, ⟨own_store HO3.out HS3.out.blk (by decide) 5 _⟩, ⟨show St _ _ _ _ _ _ _ #[.int .i64 (opOf x), .int .i64 0, .int .i64 0, .slice none 0 0, .slice none 0 0, .slice A5 (ys.length + 1) c5] from HS3.out.store HW.out 5 _⟩⟩
            case measure => simp [intOf]; omega
    · obtain ⟨A5, c5, rfl⟩ := Kd.R_slice HO.out
      obtain ⟨hc, hz⟩ := HS.out.cells
      have hr1 := fun j => blk_cell HS.out.res j
      have hr2 := fun j => blk_frozen HS.out.res j
      go_wp2
      obtain ⟨zs, hz_, hxs⟩ := HP.out
      rw [show 1 - k = 0 by omega] at hz_
      cases hz_
      rw [List.append_nil] at hxs
      subst hxs
      refine bodyPost_ret (v := .agg #[.int .i64 (opOf x), .int .i64 0, .int .i64 0, .slice none 0 0, .slice none 0 0, .slice A5 pl.length c5]) (by simp [results, Try.results54, go_sem, hc, hz, hr1, hr2]) rfl ⟨_, _, _, rfl, ?_, ?_, ?_, ?_, ?_⟩
      · exact Kd.R_nil _ _ _ _ _
      · exact Kd.R_nil _ _ _ _ _
      · exact own_final HO.out HS.out (by decide)
      · exact (HS.out.final HW.out).1
      · exact (HS.out.final HW.out).2
set_option maxRecDepth 100000 in
set_option maxHeartbeats 1000000 in
theorem ins_some9 (w0 W : World) (g : Nat) (bs : List Int) (h : Rd w0 W g bs) (hlen : bs.length ≤ 1048576) (x : Int) (q0 : List Int) (h0 : pNum bs = some (x, q0)) (hf : fieldsOf (opOf x) = 9) (a1 : Int) (q1 : List Int) (h1 : pNum q0 = some (a1, q1)) (pl r : List Int) (hx : pPlaces 1 q1 = some (pl, r)) :
    Calls Try.prog 54 #[.pointer (some ⟨g, 0, none⟩)] W fun e w' => ∃ v3 v4 v5, e = .returned (.agg #[.int .i64 (opOf x), .int .i64 a1, .int .i64 0, v3, v4, v5]) ∧ Own 2 w0 W w' v3 [] ∧ Own 2 w0 W w' v4 [] ∧ Own 3 w0 W w' v5 pl ∧ Rd w0 w' g r ∧ Kept W w' (fun k => k = g) := by
  have ml0 := pNum_len h0
  have ml1 := pNum_len h1
  have H := Aside0.mk h
  have HW := Aside0.mk h.base.2.2.size
  have H0 := Aside0.mk h0
  have Hf := Aside0.mk hf
  have H1 := Aside0.mk h1
  have HX := Aside0.mk hx
  clear h h0 hf h1 hx
  have hb1 : bits BinOp.and IntKind.i64 9 1 = 1 := by decide
  have hb2 : bits BinOp.and IntKind.i64 9 2 = 0 := by decide
  have hb4 : bits BinOp.and IntKind.i64 9 4 = 0 := by decide
  have hb8 : bits BinOp.and IntKind.i64 9 8 = 8 := by decide
  have hb16 : bits BinOp.and IntKind.i64 9 16 = 0 := by decide
  go_enter Try.func54, Try.ntmps54
  go_wp2_with (first
    | (go_at_call 53; (with_reducible refine (num_some w0 _ g bs (H.out.alloc _) x q0 H0.out).mono ?_); rintro e w1 ⟨rfl, hrd, hk⟩; have HS0 := Aside0.mk (St.start H.out hrd hk (opOf x)); clear hrd hk)
    | (go_at_call 28; refine (fields_is _ 9 Hf.out _).mono ?_; rintro e w' ⟨rfl, ⟨n1, rfl⟩⟩; have HS1 := Aside0.mk (HS0.out.drewN n1); clear HS0)
    | (go_at_call 53; (refine (num_some w0 _ g q0 (HS1.out).rd a1 q1 H1.out).mono ?_); rintro e w2 ⟨rfl, hrd, hk⟩; have HS2 := Aside0.mk (show St w0 W w2 g W.heap.size w1.heap.size q1 #[.int .i64 (opOf x), .int .i64 0, .int .i64 0, .slice none 0 0, .slice none 0 0, .slice none 0 0] from (HS1.out).call hrd hk); clear HS1; obtain ⟨hc, hz⟩ := HS2.out.cells; clear hk hrd))
  go_loopw [48] (fun i wr => ∃ (k : Nat) (ys q' : List Int) (v : Value), k ≤ 1 ∧ i = .int .i64 k ∧ ys.length ≤ k ∧ Aside0 (∃ zs, pPlaces (1 - k) q' = some (zs, r) ∧ pl = ys ++ zs) ∧ Aside0 (Own 3 w0 W wr v ys) ∧ Aside0 (St w0 W wr g W.heap.size w1.heap.size q' #[.int .i64 (opOf x), .int .i64 a1, .int .i64 0, .slice none 0 0, .slice none 0 0, v]))
    (fun i _ => 1 - (intOf i).toNat)
  case atStart => exact ⟨0, [], q1, .slice none 0 0, Nat.zero_le _, rfl, Nat.le_refl _, ⟨pl, HX.out, rfl⟩, ⟨Kd.R_nil _ _ _ _ _⟩, ⟨show St _ _ _ _ _ _ _ #[.int .i64 (opOf x), .int .i64 a1, .int .i64 0, .slice none 0 0, .slice none 0 0, .slice none 0 0] from ((HS2.out).store HW.out 1 (.int .i64 a1))⟩⟩
  case round =>
    clear HX HS2 hc hz
    obtain ⟨k, ys, q', v, hk, rfl, hys, HP, HO, HS⟩ := hrel
    by_cases hlt : k < 1
    · obtain ⟨zs, hz_, hxs⟩ := HP.out
      obtain ⟨m, hm⟩ : ∃ m, 1 - k = m + 1 := ⟨1 - k - 1, by omega⟩
      rw [hm] at hz_
      cases hq : pNum q' with
      | none => simp only [pPlaces, hq] at hz_; cases hz_
      | some p_ =>
        obtain ⟨y, q2_⟩ := p_
        cases hq2 : pPlaces m q2_ with
        | none => simp only [pPlaces, hq, hq2] at hz_; cases hz_
        | some p2_ =>
          obtain ⟨l_, q3_⟩ := p2_
          simp only [pPlaces, hq, hq2, Option.some.injEq, Prod.mk.injEq] at hz_
          obtain ⟨rfl, rfl⟩ := hz_
          have HXS := Aside0.mk hxs
          clear hxs
          have HQ := Aside0.mk hq
          have HQ2 := Aside0.mk hq2
          have HM := Aside0.mk hm
          clear hq hq2 HP hm
          obtain ⟨hc, hz⟩ := HS.out.cells
          go_wp2
          go_region_law (first
            | (refine goes_ (f := 58) Try.func58 (by kernel_rfl) rfl #[.pointer (some ⟨g, 0, none⟩)] (by rfl) rfl rfl (by simp [Act.eval, Act.put]) ?_; refine (place_some w0 _ g q' HS.out.drew.rd y q2_ HQ.out).mono ?_; rintro e w2 ⟨rfl, hrd, hk2⟩; refine ⟨_, rfl, ?_⟩; have HO2 := Aside0.mk (own_kept (Kd.R_drew HO.out) HS.out.drew.rd (by decide) hk2); have HS2 := Aside0.mk (HS.out.drew.call hrd hk2); clear hk2 hrd hc hz; obtain ⟨hc, hz⟩ := HS2.out.cells; have hc5 : ∀ o, (w2.alloc o).cell? ⟨w1.heap.size, 5, none⟩ = some v := cell_alloc ((hc 5).trans rfl))
            | (refine Kd.R_append_step (Kd.int .i64) (w0 := w0) w0.heap.size (by rfl) (.tmp 51) (.tmp 54) 41 3 (.int .i64 0) 8 rfl Try.underlying41 info3 rfl (by decide) (by omega) v ys (clamp y) [.int .i64 (clamp y)] (fun k => W.heap.size ≤ k) (fun _ => False) (by rfl) (by rfl) ?aP (fun _ hk => hk.elim) ?aF ?aO ?aB ?aS ?aL ?_; (case aP => exact rfl); (case aF => exact (fun k h => Nat.le_trans HS2.out.kept.1 h)); (case aO => exact HO2.out); (case aB => exact HS2.out.rd.base.2.2); (case aS => exact HS2.out.rd.base.2.2.size); (case aL => omega); intro v1 w3 ho hb hg hat; obtain ⟨A5, c5, rfl⟩ := Kd.R_slice ho; rw [show (ys ++ [clamp y]).length = ys.length + 1 from List.length_append] at ho hat; have HO3 := Aside0.mk ho; have HS3 := Aside0.mk (HS2.out.grown HO2.out (by decide) (by decide) hg hb); clear ho hb hg hat hc hz hc5; obtain ⟨hc, hz⟩ := HS3.out.cells))
          all_goals
            go_wp2
            go_roundw
            case rel => exact ⟨k + 1, ys ++ [clamp y], q2_, .slice A5 (ys.length + 1) c5, by omega, by go_num, by simp; omega, ⟨l_, by rw [show 1 - (k + 1) = m by have := HM.out; omega]; exact HQ2.out, by rw [HXS.out]; simp⟩, ⟨own_store HO3.out HS3.out.blk (by decide) 5 _⟩, ⟨show St _ _ _ _ _ _ _ #[.int .i64 (opOf x), .int .i64 a1, .int .i64 0, .slice none 0 0, .slice none 0 0, .slice A5 (ys.length + 1) c5] from HS3.out.store HW.out 5 _⟩⟩
            case measure => simp [intOf]; omega
    · obtain ⟨A5, c5, rfl⟩ := Kd.R_slice HO.out
      obtain ⟨hc, hz⟩ := HS.out.cells
      have hr1 := fun j => blk_cell HS.out.res j
      have hr2 := fun j => blk_frozen HS.out.res j
      go_wp2
      obtain ⟨zs, hz_, hxs⟩ := HP.out
      rw [show 1 - k = 0 by omega] at hz_
      cases hz_
      rw [List.append_nil] at hxs
      subst hxs
      refine bodyPost_ret (v := .agg #[.int .i64 (opOf x), .int .i64 a1, .int .i64 0, .slice none 0 0, .slice none 0 0, .slice A5 pl.length c5]) (by simp [results, Try.results54, go_sem, hc, hz, hr1, hr2]) rfl ⟨_, _, _, rfl, ?_, ?_, ?_, ?_, ?_⟩
      · exact Kd.R_nil _ _ _ _ _
      · exact Kd.R_nil _ _ _ _ _
      · exact own_final HO.out HS.out (by decide)
      · exact (HS.out.final HW.out).1
      · exact (HS.out.final HW.out).2
end Go.Proofs.Ytmjafkhkoifopaa.C16
end
section
/- The reader of code: an instruction, kind by kind (wip/tools/gen_ca.py wrote these lines). -/
namespace Go.Proofs.Ytmjafkhkoifopaa.C16
open Go.RowKit Go.Proofs.YtmjafkhkoifopaaW.PrintWords Go.Proofs.YtmjafkhkoifopaaW.PrintLast Go.Proofs.YtmjafkhkoifopaaW.PrintMore Go.Proofs.Ytmjafkhkoifopaa.PCodeDecodes
set_option linter.unusedVariables false
set_option linter.unusedSimpArgs false
attribute [local go_sem] max2_mx min2_mn max_two min_two   -- for this text's walks alone

set_option maxRecDepth 100000 in
set_option maxHeartbeats 1000000 in
theorem ins_none1_0 (w0 W : World) (g : Nat) (bs : List Int) (h : Rd w0 W g bs) (hlen : bs.length ≤ 1048576) (x : Int) (q0 : List Int) (h0 : pNum bs = some (x, q0)) (hf : fieldsOf (opOf x) = 1) (hx : pNum q0 = none) :
    Calls Try.prog 54 #[.pointer (some ⟨g, 0, none⟩)] W fun e w' => Gives w0 W g e w' := by
  have ml0 := pNum_len h0
  have H := Aside0.mk h
  have HW := Aside0.mk h.base.2.2.size
  have H0 := Aside0.mk h0
  have Hf := Aside0.mk hf
  have HX := Aside0.mk hx
  clear h h0 hf hx
  have hb1 : bits BinOp.and IntKind.i64 1 1 = 1 := by decide
  have hb2 : bits BinOp.and IntKind.i64 1 2 = 0 := by decide
  have hb4 : bits BinOp.and IntKind.i64 1 4 = 0 := by decide
  have hb8 : bits BinOp.and IntKind.i64 1 8 = 0 := by decide
  have hb16 : bits BinOp.and IntKind.i64 1 16 = 0 := by decide
  go_enter Try.func54, Try.ntmps54
  go_wp2_with (first
    | (go_at_call 53; (with_reducible refine (num_some w0 _ g bs (H.out.alloc _) x q0 H0.out).mono ?_); rintro e w1 ⟨rfl, hrd, hk⟩; have HS0 := Aside0.mk (St.start H.out hrd hk (opOf x)); clear hrd hk)
    | (go_at_call 28; refine (fields_is _ 1 Hf.out _).mono ?_; rintro e w' ⟨rfl, ⟨n1, rfl⟩⟩; have HS1 := Aside0.mk (HS0.out.drewN n1); clear HS0)
    | (go_at_call 53; (refine (num_none w0 _ g q0 (HS1.out).rd HX.out).mono ?_); rintro e w9 ⟨he, hk, hb⟩; cases he; have HK := Aside0.mk ((HS1.out).kept.then_ hk (fun _ e_ => .inl e_)); have HB := Aside0.mk hb; clear hk hb))
  exact ⟨rfl, rfl, HK.out, HB.out⟩
set_option maxRecDepth 100000 in
set_option maxHeartbeats 1000000 in
theorem ins_none3_0 (w0 W : World) (g : Nat) (bs : List Int) (h : Rd w0 W g bs) (hlen : bs.length ≤ 1048576) (x : Int) (q0 : List Int) (h0 : pNum bs = some (x, q0)) (hf : fieldsOf (opOf x) = 3) (hx : pNum q0 = none) :
    Calls Try.prog 54 #[.pointer (some ⟨g, 0, none⟩)] W fun e w' => Gives w0 W g e w' := by
  have ml0 := pNum_len h0
  have H := Aside0.mk h
  have HW := Aside0.mk h.base.2.2.size
  have H0 := Aside0.mk h0
  have Hf := Aside0.mk hf
  have HX := Aside0.mk hx
  clear h h0 hf hx
  have hb1 : bits BinOp.and IntKind.i64 3 1 = 1 := by decide
  have hb2 : bits BinOp.and IntKind.i64 3 2 = 2 := by decide
  have hb4 : bits BinOp.and IntKind.i64 3 4 = 0 := by decide
  have hb8 : bits BinOp.and IntKind.i64 3 8 = 0 := by decide
  have hb16 : bits BinOp.and IntKind.i64 3 16 = 0 := by decide
  go_enter Try.func54, Try.ntmps54
  go_wp2_with (first
    | (go_at_call 53; (with_reducible refine (num_some w0 _ g bs (H.out.alloc _) x q0 H0.out).mono ?_); rintro e w1 ⟨rfl, hrd, hk⟩; have HS0 := Aside0.mk (St.start H.out hrd hk (opOf x)); clear hrd hk)
    | (go_at_call 28; refine (fields_is _ 3 Hf.out _).mono ?_; rintro e w' ⟨rfl, ⟨n1, rfl⟩⟩; have HS1 := Aside0.mk (HS0.out.drewN n1); clear HS0)
    | (go_at_call 53; (refine (num_none w0 _ g q0 (HS1.out).rd HX.out).mono ?_); rintro e w9 ⟨he, hk, hb⟩; cases he; have HK := Aside0.mk ((HS1.out).kept.then_ hk (fun _ e_ => .inl e_)); have HB := Aside0.mk hb; clear hk hb))
  exact ⟨rfl, rfl, HK.out, HB.out⟩
set_option maxRecDepth 100000 in
set_option maxHeartbeats 1000000 in
theorem ins_none3_1 (w0 W : World) (g : Nat) (bs : List Int) (h : Rd w0 W g bs) (hlen : bs.length ≤ 1048576) (x : Int) (q0 : List Int) (h0 : pNum bs = some (x, q0)) (hf : fieldsOf (opOf x) = 3) (a1 : Int) (q1 : List Int) (h1 : pNum q0 = some (a1, q1)) (hx : pNum q1 = none) :
    Calls Try.prog 54 #[.pointer (some ⟨g, 0, none⟩)] W fun e w' => Gives w0 W g e w' := by
  have ml0 := pNum_len h0
  have ml1 := pNum_len h1
  have H := Aside0.mk h
  have HW := Aside0.mk h.base.2.2.size
  have H0 := Aside0.mk h0
  have Hf := Aside0.mk hf
  have H1 := Aside0.mk h1
  have HX := Aside0.mk hx
  clear h h0 hf h1 hx
  have hb1 : bits BinOp.and IntKind.i64 3 1 = 1 := by decide
  have hb2 : bits BinOp.and IntKind.i64 3 2 = 2 := by decide
  have hb4 : bits BinOp.and IntKind.i64 3 4 = 0 := by decide
  have hb8 : bits BinOp.and IntKind.i64 3 8 = 0 := by decide
  have hb16 : bits BinOp.and IntKind.i64 3 16 = 0 := by decide
  go_enter Try.func54, Try.ntmps54
  go_wp2_with (first
    | (go_at_call 53; (with_reducible refine (num_some w0 _ g bs (H.out.alloc _) x q0 H0.out).mono ?_); rintro e w1 ⟨rfl, hrd, hk⟩; have HS0 := Aside0.mk (St.start H.out hrd hk (opOf x)); clear hrd hk)
    | (go_at_call 28; refine (fields_is _ 3 Hf.out _).mono ?_; rintro e w' ⟨rfl, ⟨n1, rfl⟩⟩; have HS1 := Aside0.mk (HS0.out.drewN n1); clear HS0)
    | (go_at_call 53; (refine (num_some w0 _ g q0 (HS1.out).rd a1 q1 H1.out).mono ?_); rintro e w2 ⟨rfl, hrd, hk⟩; have HS2 := Aside0.mk (show St w0 W w2 g W.heap.size w1.heap.size q1 #[.int .i64 (opOf x), .int .i64 0, .int .i64 0, .slice none 0 0, .slice none 0 0, .slice none 0 0] from (HS1.out).call hrd hk); clear HS1; obtain ⟨hc, hz⟩ := HS2.out.cells; clear hk hrd)
    | (go_at_call 53; (refine (num_none w0 _ g q1 (((HS2.out).store HW.out 1 (.int .i64 a1))).rd HX.out).mono ?_); rintro e w9 ⟨he, hk, hb⟩; cases he; have HK := Aside0.mk ((((HS2.out).store HW.out 1 (.int .i64 a1))).kept.then_ hk (fun _ e_ => .inl e_)); have HB := Aside0.mk hb; clear hk hb))
  exact ⟨rfl, rfl, HK.out, HB.out⟩
set_option maxRecDepth 100000 in
set_option maxHeartbeats 1000000 in
theorem ins_none8_0 (w0 W : World) (g : Nat) (bs : List Int) (h : Rd w0 W g bs) (hlen : bs.length ≤ 1048576) (x : Int) (q0 : List Int) (h0 : pNum bs = some (x, q0)) (hf : fieldsOf (opOf x) = 8) (hx : pPlaces 1 q0 = none) :
    Calls Try.prog 54 #[.pointer (some ⟨g, 0, none⟩)] W fun e w' => Gives w0 W g e w' := by
  have ml0 := pNum_len h0
  have H := Aside0.mk h
  have HW := Aside0.mk h.base.2.2.size
  have H0 := Aside0.mk h0
  have Hf := Aside0.mk hf
  have HX := Aside0.mk hx
  clear h h0 hf hx
  have hb1 : bits BinOp.and IntKind.i64 8 1 = 0 := by decide
  have hb2 : bits BinOp.and IntKind.i64 8 2 = 0 := by decide
  have hb4 : bits BinOp.and IntKind.i64 8 4 = 0 := by decide
  have hb8 : bits BinOp.and IntKind.i64 8 8 = 8 := by decide
  have hb16 : bits BinOp.and IntKind.i64 8 16 = 0 := by decide
  go_enter Try.func54, Try.ntmps54
  go_wp2_with (first
    | (go_at_call 53; (with_reducible refine (num_some w0 _ g bs (H.out.alloc _) x q0 H0.out).mono ?_); rintro e w1 ⟨rfl, hrd, hk⟩; have HS0 := Aside0.mk (St.start H.out hrd hk (opOf x)); clear hrd hk)
    | (go_at_call 28; refine (fields_is _ 8 Hf.out _).mono ?_; rintro e w' ⟨rfl, ⟨n1, rfl⟩⟩; have HS1 := Aside0.mk (HS0.out.drewN n1); clear HS0))
  go_loopw [48] (fun i wr => ∃ (k : Nat) (ys q' : List Int) (v : Value), k ≤ 1 ∧ i = .int .i64 k ∧ ys.length ≤ k ∧ Aside0 (pPlaces (1 - k) q' = none) ∧ Aside0 (Own 3 w0 W wr v ys) ∧ Aside0 (St w0 W wr g W.heap.size w1.heap.size q' #[.int .i64 (opOf x), .int .i64 0, .int .i64 0, .slice none 0 0, .slice none 0 0, v]))
    (fun i _ => 1 - (intOf i).toNat)
  case atStart => exact ⟨0, [], q0, .slice none 0 0, Nat.zero_le _, rfl, Nat.le_refl _, HX, ⟨Kd.R_nil _ _ _ _ _⟩, ⟨show St _ _ _ _ _ _ _ #[.int .i64 (opOf x), .int .i64 0, .int .i64 0, .slice none 0 0, .slice none 0 0, .slice none 0 0] from HS1.out⟩⟩
  case round =>
    clear HX HS1
    obtain ⟨k, ys, q', v, hk, rfl, hys, HP, HO, HS⟩ := hrel
    have hlt : k < 1 := by
      rcases Nat.lt_or_ge k 1 with h | h
      · exact h
      · have hz_ := HP.out
        rw [show 1 - k = 0 by omega] at hz_
        cases hz_
    have hz_ := HP.out
    obtain ⟨m, hm⟩ : ∃ m, 1 - k = m + 1 := ⟨1 - k - 1, by omega⟩
    rw [hm] at hz_
    cases hq : pNum q' with
    | none =>
      have HQ := Aside0.mk hq
      clear hq hz_ HP hm
      obtain ⟨hc, hz⟩ := HS.out.cells
      go_wp2
      refine wp_region_any (by kernel_rfl) ?_
      change wpAny _ _ _ _ _ _ _ (World.drew _)
      refine wpAny_take (i := 0) (v := ?_) rfl (by kernel_rfl) (by kernel_rfl) (by kernel_rfl) (fun _ _ _ h => h) (Or.inl ⟨by rfl, ?_⟩) ?_
      rotate_left
      · intro w; go_simp
        try with_reducible rfl
      refine wpAny_take (i := 2) (v := ?_) rfl (by kernel_rfl) (by kernel_rfl) (by kernel_rfl) (fun _ _ _ h => h) (Or.inl ⟨by rfl, ?_⟩) ?_
      rotate_left
      · intro w; go_simp
        try with_reducible rfl
      refine wpAny_ready (rs := [1, 3]) (by kernel_rfl) (by simp) ?_
      refine AllReady.cons rfl (fun K hK => ?_) (AllReady.cons rfl (fun K hK => ?_) AllReady.nil)
      · go_simp
        refine hK _ _ ?_
        clear hK K
        refine wpAny_ready (rs := [3]) (by kernel_rfl) (by simp) ?_
        refine AllReady.cons rfl (fun K hK => ?_) AllReady.nil
        go_simp
        refine (place_none w0 _ g q' HS.out.drew.rd HQ.out).mono ?_; rintro e w9 ⟨he, hk9, hb9⟩; cases he; have HK9 := Aside0.mk (HS.out.drew.kept.then_ hk9 (fun _ e_ => .inl e_)); have HB9 := Aside0.mk hb9; clear hk9 hb9; exact ⟨rfl, rfl, HK9.out, HB9.out⟩
      · go_simp
        refine (place_none w0 _ g q' HS.out.drew.rd HQ.out).mono ?_; rintro e w9 ⟨he, hk9, hb9⟩; cases he; have HK9 := Aside0.mk (HS.out.drew.kept.then_ hk9 (fun _ e_ => .inl e_)); have HB9 := Aside0.mk hb9; clear hk9 hb9; exact ⟨rfl, rfl, HK9.out, HB9.out⟩
    | some p_ =>
      obtain ⟨y, q2_⟩ := p_
      have hq2 : pPlaces m q2_ = none := by
        cases h : pPlaces m q2_ with
        | none => rfl
        | some p2 => simp only [pPlaces, hq, h] at hz_; cases hz_
      have HQ := Aside0.mk hq
      have HQ2 := Aside0.mk hq2
      have HM := Aside0.mk hm
      clear hq hq2 HP hm hz_
      obtain ⟨hc, hz⟩ := HS.out.cells
      go_wp2
      go_region_law (first
        | (refine goes_ (f := 58) Try.func58 (by kernel_rfl) rfl #[.pointer (some ⟨g, 0, none⟩)] (by rfl) rfl rfl (by simp [Act.eval, Act.put]) ?_; refine (place_some w0 _ g q' HS.out.drew.rd y q2_ HQ.out).mono ?_; rintro e w2 ⟨rfl, hrd, hk2⟩; refine ⟨_, rfl, ?_⟩; have HO2 := Aside0.mk (own_kept (Kd.R_drew HO.out) HS.out.drew.rd (by decide) hk2); have HS2 := Aside0.mk (HS.out.drew.call hrd hk2); clear hk2 hrd hc hz; obtain ⟨hc, hz⟩ := HS2.out.cells; have hc5 : ∀ o, (w2.alloc o).cell? ⟨w1.heap.size, 5, none⟩ = some v := cell_alloc ((hc 5).trans rfl))
        | (refine Kd.R_append_step (Kd.int .i64) (w0 := w0) w0.heap.size (by rfl) (.tmp 51) (.tmp 54) 41 3 (.int .i64 0) 8 rfl Try.underlying41 info3 rfl (by decide) (by omega) v ys (clamp y) [.int .i64 (clamp y)] (fun k => W.heap.size ≤ k) (fun _ => False) (by rfl) (by rfl) ?aP (fun _ hk => hk.elim) ?aF ?aO ?aB ?aS ?aL ?_; (case aP => exact rfl); (case aF => exact (fun k h => Nat.le_trans HS2.out.kept.1 h)); (case aO => exact HO2.out); (case aB => exact HS2.out.rd.base.2.2); (case aS => exact HS2.out.rd.base.2.2.size); (case aL => omega); intro v1 w3 ho hb hg hat; obtain ⟨A5, c5, rfl⟩ := Kd.R_slice ho; rw [show (ys ++ [clamp y]).length = ys.length + 1 from List.length_append] at ho hat; have HO3 := Aside0.mk ho; have HS3 := Aside0.mk (HS2.out.grown HO2.out (by decide) (by decide) hg hb); clear ho hb hg hat hc hz hc5; obtain ⟨hc, hz⟩ := HS3.out.cells))
      all_goals
        go_wp2
        go_roundw
        case rel => exact ⟨k + 1, ys ++ [clamp y], q2_, .slice A5 (ys.length + 1) c5, by omega, by go_num, by simp; omega, ⟨by rw [show 1 - (k + 1) = m by have := HM.out; omega]; exact HQ2.out⟩, ⟨own_store HO3.out HS3.out.blk (by decide) 5 _⟩, ⟨show St _ _ _ _ _ _ _ #[.int .i64 (opOf x), .int .i64 0, .int .i64 0, .slice none 0 0, .slice none 0 0, .slice A5 (ys.length + 1) c5] from HS3.out.store HW.out 5 _⟩⟩
        case measure => simp [intOf]; omega
set_option maxRecDepth 100000 in
set_option maxHeartbeats 1000000 in
theorem ins_none9_0 (w0 W : World) (g : Nat) (bs : List Int) (h : Rd w0 W g bs) (hlen : bs.length ≤ 1048576) (x : Int) (q0 : List Int) (h0 : pNum bs = some (x, q0)) (hf : fieldsOf (opOf x) = 9) (hx : pNum q0 = none) :
    Calls Try.prog 54 #[.pointer (some ⟨g, 0, none⟩)] W fun e w' => Gives w0 W g e w' := by
  have ml0 := pNum_len h0
  have H := Aside0.mk h
  have HW := Aside0.mk h.base.2.2.size
  have H0 := Aside0.mk h0
  have Hf := Aside0.mk hf
  have HX := Aside0.mk hx
  clear h h0 hf hx
  have hb1 : bits BinOp.and IntKind.i64 9 1 = 1 := by decide
  have hb2 : bits BinOp.and IntKind.i64 9 2 = 0 := by decide
  have hb4 : bits BinOp.and IntKind.i64 9 4 = 0 := by decide
  have hb8 : bits BinOp.and IntKind.i64 9 8 = 8 := by decide
  have hb16 : bits BinOp.and IntKind.i64 9 16 = 0 := by decide
  go_enter Try.func54, Try.ntmps54
  go_wp2_with (first
    | (go_at_call 53; (with_reducible refine (num_some w0 _ g bs (H.out.alloc _) x q0 H0.out).mono ?_); rintro e w1 ⟨rfl, hrd, hk⟩; have HS0 := Aside0.mk (St.start H.out hrd hk (opOf x)); clear hrd hk)
    | (go_at_call 28; refine (fields_is _ 9 Hf.out _).mono ?_; rintro e w' ⟨rfl, ⟨n1, rfl⟩⟩; have HS1 := Aside0.mk (HS0.out.drewN n1); clear HS0)
    | (go_at_call 53; (refine (num_none w0 _ g q0 (HS1.out).rd HX.out).mono ?_); rintro e w9 ⟨he, hk, hb⟩; cases he; have HK := Aside0.mk ((HS1.out).kept.then_ hk (fun _ e_ => .inl e_)); have HB := Aside0.mk hb; clear hk hb))
  exact ⟨rfl, rfl, HK.out, HB.out⟩
set_option maxRecDepth 100000 in
set_option maxHeartbeats 1000000 in
theorem ins_none9_1 (w0 W : World) (g : Nat) (bs : List Int) (h : Rd w0 W g bs) (hlen : bs.length ≤ 1048576) (x : Int) (q0 : List Int) (h0 : pNum bs = some (x, q0)) (hf : fieldsOf (opOf x) = 9) (a1 : Int) (q1 : List Int) (h1 : pNum q0 = some (a1, q1)) (hx : pPlaces 1 q1 = none) :
    Calls Try.prog 54 #[.pointer (some ⟨g, 0, none⟩)] W fun e w' => Gives w0 W g e w' := by
  have ml0 := pNum_len h0
  have ml1 := pNum_len h1
  have H := Aside0.mk h
  have HW := Aside0.mk h.base.2.2.size
  have H0 := Aside0.mk h0
  have Hf := Aside0.mk hf
  have H1 := Aside0.mk h1
  have HX := Aside0.mk hx
  clear h h0 hf h1 hx
  have hb1 : bits BinOp.and IntKind.i64 9 1 = 1 := by decide
  have hb2 : bits BinOp.and IntKind.i64 9 2 = 0 := by decide
  have hb4 : bits BinOp.and IntKind.i64 9 4 = 0 := by decide
  have hb8 : bits BinOp.and IntKind.i64 9 8 = 8 := by decide
  have hb16 : bits BinOp.and IntKind.i64 9 16 = 0 := by decide
  go_enter Try.func54, Try.ntmps54
  go_wp2_with (first
    | (go_at_call 53; (with_reducible refine (num_some w0 _ g bs (H.out.alloc _) x q0 H0.out).mono ?_); rintro e w1 ⟨rfl, hrd, hk⟩; have HS0 := Aside0.mk (St.start H.out hrd hk (opOf x)); clear hrd hk)
    | (go_at_call 28; refine (fields_is _ 9 Hf.out _).mono ?_; rintro e w' ⟨rfl, ⟨n1, rfl⟩⟩; have HS1 := Aside0.mk (HS0.out.drewN n1); clear HS0)
    | (go_at_call 53; (refine (num_some w0 _ g q0 (HS1.out).rd a1 q1 H1.out).mono ?_); rintro e w2 ⟨rfl, hrd, hk⟩; have HS2 := Aside0.mk (show St w0 W w2 g W.heap.size w1.heap.size q1 #[.int .i64 (opOf x), .int .i64 0, .int .i64 0, .slice none 0 0, .slice none 0 0, .slice none 0 0] from (HS1.out).call hrd hk); clear HS1; obtain ⟨hc, hz⟩ := HS2.out.cells; clear hk hrd))
  go_loopw [48] (fun i wr => ∃ (k : Nat) (ys q' : List Int) (v : Value), k ≤ 1 ∧ i = .int .i64 k ∧ ys.length ≤ k ∧ Aside0 (pPlaces (1 - k) q' = none) ∧ Aside0 (Own 3 w0 W wr v ys) ∧ Aside0 (St w0 W wr g W.heap.size w1.heap.size q' #[.int .i64 (opOf x), .int .i64 a1, .int .i64 0, .slice none 0 0, .slice none 0 0, v]))
    (fun i _ => 1 - (intOf i).toNat)
  case atStart => exact ⟨0, [], q1, .slice none 0 0, Nat.zero_le _, rfl, Nat.le_refl _, HX, ⟨Kd.R_nil _ _ _ _ _⟩, ⟨show St _ _ _ _ _ _ _ #[.int .i64 (opOf x), .int .i64 a1, .int .i64 0, .slice none 0 0, .slice none 0 0, .slice none 0 0] from ((HS2.out).store HW.out 1 (.int .i64 a1))⟩⟩
  case round =>
    clear HX HS2 hc hz
    obtain ⟨k, ys, q', v, hk, rfl, hys, HP, HO, HS⟩ := hrel
    have hlt : k < 1 := by
      rcases Nat.lt_or_ge k 1 with h | h
      · exact h
      · have hz_ := HP.out
        rw [show 1 - k = 0 by omega] at hz_
        cases hz_
    have hz_ := HP.out
    obtain ⟨m, hm⟩ : ∃ m, 1 - k = m + 1 := ⟨1 - k - 1, by omega⟩
    rw [hm] at hz_
    cases hq : pNum q' with
    | none =>
      have HQ := Aside0.mk hq
      clear hq hz_ HP hm
      obtain ⟨hc, hz⟩ := HS.out.cells
      go_wp2
      refine wp_region_any (by kernel_rfl) ?_
      change wpAny _ _ _ _ _ _ _ (World.drew _)
      refine wpAny_take (i := 0) (v := ?_) rfl (by kernel_rfl) (by kernel_rfl) (by kernel_rfl) (fun _ _ _ h => h) (Or.inl ⟨by rfl, ?_⟩) ?_
      rotate_left
      · intro w; go_simp
        try with_reducible rfl
      refine wpAny_take (i := 2) (v := ?_) rfl (by kernel_rfl) (by kernel_rfl) (by kernel_rfl) (fun _ _ _ h => h) (Or.inl ⟨by rfl, ?_⟩) ?_
      rotate_left
      · intro w; go_simp
        try with_reducible rfl
      refine wpAny_ready (rs := [1, 3]) (by kernel_rfl) (by simp) ?_
      refine AllReady.cons rfl (fun K hK => ?_) (AllReady.cons rfl (fun K hK => ?_) AllReady.nil)
      · go_simp
        refine hK _ _ ?_
        clear hK K
        refine wpAny_ready (rs := [3]) (by kernel_rfl) (by simp) ?_
        refine AllReady.cons rfl (fun K hK => ?_) AllReady.nil
        go_simp
        refine (place_none w0 _ g q' HS.out.drew.rd HQ.out).mono ?_; rintro e w9 ⟨he, hk9, hb9⟩; cases he; have HK9 := Aside0.mk (HS.out.drew.kept.then_ hk9 (fun _ e_ => .inl e_)); have HB9 := Aside0.mk hb9; clear hk9 hb9; exact ⟨rfl, rfl, HK9.out, HB9.out⟩
      · go_simp
        refine (place_none w0 _ g q' HS.out.drew.rd HQ.out).mono ?_; rintro e w9 ⟨he, hk9, hb9⟩; cases he; have HK9 := Aside0.mk (HS.out.drew.kept.then_ hk9 (fun _ e_ => .inl e_)); have HB9 := Aside0.mk hb9; clear hk9 hb9; exact ⟨rfl, rfl, HK9.out, HB9.out⟩
    | some p_ =>
      obtain ⟨y, q2_⟩ := p_
      have hq2 : pPlaces m q2_ = none := by
        cases h : pPlaces m q2_ with
        | none => rfl
        | some p2 => simp only [pPlaces, hq, h] at hz_; cases hz_
      have HQ := Aside0.mk hq
      have HQ2 := Aside0.mk hq2
      have HM := Aside0.mk hm
      clear hq hq2 HP hm hz_
      obtain ⟨hc, hz⟩ := HS.out.cells
      go_wp2
      go_region_law (first
        | (refine goes_ (f := 58) Try.func58 (by kernel_rfl) rfl #[.pointer (some ⟨g, 0, none⟩)] (by rfl) rfl rfl (by simp [Act.eval, Act.put]) ?_; refine (place_some w0 _ g q' HS.out.drew.rd y q2_ HQ.out).mono ?_; rintro e w2 ⟨rfl, hrd, hk2⟩; refine ⟨_, rfl, ?_⟩; have HO2 := Aside0.mk (own_kept (Kd.R_drew HO.out) HS.out.drew.rd (by decide) hk2); have HS2 := Aside0.mk (HS.out.drew.call hrd hk2); clear hk2 hrd hc hz; obtain ⟨hc, hz⟩ := HS2.out.cells; have hc5 : ∀ o, (w2.alloc o).cell? ⟨w1.heap.size, 5, none⟩ = some v := cell_alloc ((hc 5).trans rfl))
        | (refine Kd.R_append_step (Kd.int .i64) (w0 := w0) w0.heap.size (by rfl) (.tmp 51) (.tmp 54) 41 3 (.int .i64 0) 8 rfl Try.underlying41 info3 rfl (by decide) (by omega) v ys (clamp y) [.int .i64 (clamp y)] (fun k => W.heap.size ≤ k) (fun _ => False) (by rfl) (by rfl) ?aP (fun _ hk => hk.elim) ?aF ?aO ?aB ?aS ?aL ?_; (case aP => exact rfl); (case aF => exact (fun k h => Nat.le_trans HS2.out.kept.1 h)); (case aO => exact HO2.out); (case aB => exact HS2.out.rd.base.2.2); (case aS => exact HS2.out.rd.base.2.2.size); (case aL => omega); intro v1 w3 ho hb hg hat; obtain ⟨A5, c5, rfl⟩ := Kd.R_slice ho; rw [show (ys ++ [clamp y]).length = ys.length + 1 from List.length_append] at ho hat; have HO3 := Aside0.mk ho; have HS3 := Aside0.mk (HS2.out.grown HO2.out (by decide) (by decide) hg hb); clear ho hb hg hat hc hz hc5; obtain ⟨hc, hz⟩ := HS3.out.cells))
      all_goals
        go_wp2
        go_roundw
        case rel => exact ⟨k + 1, ys ++ [clamp y], q2_, .slice A5 (ys.length + 1) c5, by omega, by go_num, by simp; omega, ⟨by rw [show 1 - (k + 1) = m by have := HM.out; omega]; exact HQ2.out⟩, ⟨own_store HO3.out HS3.out.blk (by decide) 5 _⟩, ⟨show St _ _ _ _ _ _ _ #[.int .i64 (opOf x), .int .i64 a1, .int .i64 0, .slice none 0 0, .slice none 0 0, .slice A5 (ys.length + 1) c5] from HS3.out.store HW.out 5 _⟩⟩
        case measure => simp [intOf]; omega
end Go.Proofs.Ytmjafkhkoifopaa.C16
end
section
/- The reader of code: an instruction, kind by kind (wip/tools/gen_ca.py wrote these lines). -/
namespace Go.Proofs.Ytmjafkhkoifopaa.C16
open Go.RowKit Go.Proofs.YtmjafkhkoifopaaW.PrintWords Go.Proofs.YtmjafkhkoifopaaW.PrintLast Go.Proofs.YtmjafkhkoifopaaW.PrintMore Go.Proofs.Ytmjafkhkoifopaa.PCodeDecodes
set_option linter.unusedVariables false
set_option linter.unusedSimpArgs false
attribute [local go_sem] max2_mx min2_mn max_two min_two   -- for this text's walks alone

set_option maxRecDepth 100000 in
set_option maxHeartbeats 1000000 in
theorem ins_none17_0 (w0 W : World) (g : Nat) (bs : List Int) (h : Rd w0 W g bs) (hlen : bs.length ≤ 1048576) (x : Int) (q0 : List Int) (h0 : pNum bs = some (x, q0)) (hf : fieldsOf (opOf x) = 17) (hx : pNum q0 = none) :
    Calls Try.prog 54 #[.pointer (some ⟨g, 0, none⟩)] W fun e w' => Gives w0 W g e w' := by
  have ml0 := pNum_len h0
  have H := Aside0.mk h
  have HW := Aside0.mk h.base.2.2.size
  have H0 := Aside0.mk h0
  have Hf := Aside0.mk hf
  have HX := Aside0.mk hx
  clear h h0 hf hx
  have hb1 : bits BinOp.and IntKind.i64 17 1 = 1 := by decide
  have hb2 : bits BinOp.and IntKind.i64 17 2 = 0 := by decide
  have hb4 : bits BinOp.and IntKind.i64 17 4 = 0 := by decide
  have hb8 : bits BinOp.and IntKind.i64 17 8 = 0 := by decide
  have hb16 : bits BinOp.and IntKind.i64 17 16 = 16 := by decide
  go_enter Try.func54, Try.ntmps54
  go_wp2_with (first
    | (go_at_call 53; (with_reducible refine (num_some w0 _ g bs (H.out.alloc _) x q0 H0.out).mono ?_); rintro e w1 ⟨rfl, hrd, hk⟩; have HS0 := Aside0.mk (St.start H.out hrd hk (opOf x)); clear hrd hk)
    | (go_at_call 28; refine (fields_is _ 17 Hf.out _).mono ?_; rintro e w' ⟨rfl, ⟨n1, rfl⟩⟩; have HS1 := Aside0.mk (HS0.out.drewN n1); clear HS0)
    | (go_at_call 53; (refine (num_none w0 _ g q0 (HS1.out).rd HX.out).mono ?_); rintro e w9 ⟨he, hk, hb⟩; cases he; have HK := Aside0.mk ((HS1.out).kept.then_ hk (fun _ e_ => .inl e_)); have HB := Aside0.mk hb; clear hk hb))
  exact ⟨rfl, rfl, HK.out, HB.out⟩
set_option maxRecDepth 100000 in
set_option maxHeartbeats 1000000 in
theorem ins_none17_1 (w0 W : World) (g : Nat) (bs : List Int) (h : Rd w0 W g bs) (hlen : bs.length ≤ 1048576) (x : Int) (q0 : List Int) (h0 : pNum bs = some (x, q0)) (hf : fieldsOf (opOf x) = 17) (a1 : Int) (q1 : List Int) (h1 : pNum q0 = some (a1, q1)) (hx : pCount q1 = none) :
    Calls Try.prog 54 #[.pointer (some ⟨g, 0, none⟩)] W fun e w' => Gives w0 W g e w' := by
  have ml0 := pNum_len h0
  have ml1 := pNum_len h1
  have H := Aside0.mk h
  have HW := Aside0.mk h.base.2.2.size
  have H0 := Aside0.mk h0
  have Hf := Aside0.mk hf
  have H1 := Aside0.mk h1
  have HX := Aside0.mk hx
  clear h h0 hf h1 hx
  have hb1 : bits BinOp.and IntKind.i64 17 1 = 1 := by decide
  have hb2 : bits BinOp.and IntKind.i64 17 2 = 0 := by decide
  have hb4 : bits BinOp.and IntKind.i64 17 4 = 0 := by decide
  have hb8 : bits BinOp.and IntKind.i64 17 8 = 0 := by decide
  have hb16 : bits BinOp.and IntKind.i64 17 16 = 16 := by decide
  go_enter Try.func54, Try.ntmps54
  go_wp2_with (first
    | (go_at_call 53; (with_reducible refine (num_some w0 _ g bs (H.out.alloc _) x q0 H0.out).mono ?_); rintro e w1 ⟨rfl, hrd, hk⟩; have HS0 := Aside0.mk (St.start H.out hrd hk (opOf x)); clear hrd hk)
    | (go_at_call 28; refine (fields_is _ 17 Hf.out _).mono ?_; rintro e w' ⟨rfl, ⟨n1, rfl⟩⟩; have HS1 := Aside0.mk (HS0.out.drewN n1); clear HS0)
    | (go_at_call 53; (refine (num_some w0 _ g q0 (HS1.out).rd a1 q1 H1.out).mono ?_); rintro e w2 ⟨rfl, hrd, hk⟩; have HS2 := Aside0.mk (show St w0 W w2 g W.heap.size w1.heap.size q1 #[.int .i64 (opOf x), .int .i64 0, .int .i64 0, .slice none 0 0, .slice none 0 0, .slice none 0 0] from (HS1.out).call hrd hk); clear HS1; obtain ⟨hc, hz⟩ := HS2.out.cells; clear hk hrd)
    | (go_at_call 51; (refine (cnt_none w0 _ g q1 (((HS2.out).store HW.out 1 (.int .i64 a1))).rd HX.out).mono ?_); rintro e w9 ⟨he, hk, hb⟩; cases he; have HK := Aside0.mk ((((HS2.out).store HW.out 1 (.int .i64 a1))).kept.then_ hk (fun _ e_ => .inl e_)); have HB := Aside0.mk hb; clear hk hb))
  exact ⟨rfl, rfl, HK.out, HB.out⟩
set_option maxRecDepth 100000 in
set_option maxHeartbeats 1000000 in
theorem ins_none17_2 (w0 W : World) (g : Nat) (bs : List Int) (h : Rd w0 W g bs) (hlen : bs.length ≤ 1048576) (x : Int) (q0 : List Int) (h0 : pNum bs = some (x, q0)) (hf : fieldsOf (opOf x) = 17) (a1 : Int) (q1 : List Int) (h1 : pNum q0 = some (a1, q1)) (n : Nat) (q2 : List Int) (h2 : pCount q1 = some (n, q2)) (hx : pPlaces n q2 = none) :
    Calls Try.prog 54 #[.pointer (some ⟨g, 0, none⟩)] W fun e w' => Gives w0 W g e w' := by
  have ml0 := pNum_len h0
  have ml1 := pNum_len h1
  have ml2 := pCount_len h2
  have mn_ := pCount_le h2
  have H := Aside0.mk h
  have HW := Aside0.mk h.base.2.2.size
  have H0 := Aside0.mk h0
  have Hf := Aside0.mk hf
  have H1 := Aside0.mk h1
  have H2 := Aside0.mk h2
  have HX := Aside0.mk hx
  clear h h0 hf h1 h2 hx
  have hb1 : bits BinOp.and IntKind.i64 17 1 = 1 := by decide
  have hb2 : bits BinOp.and IntKind.i64 17 2 = 0 := by decide
  have hb4 : bits BinOp.and IntKind.i64 17 4 = 0 := by decide
  have hb8 : bits BinOp.and IntKind.i64 17 8 = 0 := by decide
  have hb16 : bits BinOp.and IntKind.i64 17 16 = 16 := by decide
  go_enter Try.func54, Try.ntmps54
  go_wp2_with (first
    | (go_at_call 53; (with_reducible refine (num_some w0 _ g bs (H.out.alloc _) x q0 H0.out).mono ?_); rintro e w1 ⟨rfl, hrd, hk⟩; have HS0 := Aside0.mk (St.start H.out hrd hk (opOf x)); clear hrd hk)
    | (go_at_call 28; refine (fields_is _ 17 Hf.out _).mono ?_; rintro e w' ⟨rfl, ⟨n1, rfl⟩⟩; have HS1 := Aside0.mk (HS0.out.drewN n1); clear HS0)
    | (go_at_call 53; (refine (num_some w0 _ g q0 (HS1.out).rd a1 q1 H1.out).mono ?_); rintro e w2 ⟨rfl, hrd, hk⟩; have HS2 := Aside0.mk (show St w0 W w2 g W.heap.size w1.heap.size q1 #[.int .i64 (opOf x), .int .i64 0, .int .i64 0, .slice none 0 0, .slice none 0 0, .slice none 0 0] from (HS1.out).call hrd hk); clear HS1; obtain ⟨hc, hz⟩ := HS2.out.cells; clear hk hrd)
    | (go_at_call 51; (refine (cnt_some w0 _ g q1 (((HS2.out).store HW.out 1 (.int .i64 a1))).rd n q2 H2.out).mono ?_); rintro e w3 ⟨rfl, hrd, hk⟩; have HS3 := Aside0.mk (show St w0 W w3 g W.heap.size w1.heap.size q2 #[.int .i64 (opOf x), .int .i64 a1, .int .i64 0, .slice none 0 0, .slice none 0 0, .slice none 0 0] from (((HS2.out).store HW.out 1 (.int .i64 a1))).call hrd hk); clear HS2; clear hc hz; obtain ⟨hc, hz⟩ := HS3.out.cells; clear hk hrd))
  go_loopw [48] (fun i wr => ∃ (k : Nat) (ys q' : List Int) (v : Value), k ≤ n ∧ i = .int .i64 k ∧ ys.length ≤ k ∧ Aside0 (pPlaces (n - k) q' = none) ∧ Aside0 (Own 3 w0 W wr v ys) ∧ Aside0 (St w0 W wr g W.heap.size w1.heap.size q' #[.int .i64 (opOf x), .int .i64 a1, .int .i64 0, .slice none 0 0, .slice none 0 0, v]))
    (fun i _ => n - (intOf i).toNat)
  case atStart => exact ⟨0, [], q2, .slice none 0 0, Nat.zero_le _, rfl, Nat.le_refl _, HX, ⟨Kd.R_nil _ _ _ _ _⟩, ⟨show St _ _ _ _ _ _ _ #[.int .i64 (opOf x), .int .i64 a1, .int .i64 0, .slice none 0 0, .slice none 0 0, .slice none 0 0] from HS3.out⟩⟩
  case round =>
    clear HX HS3 hc hz
    obtain ⟨k, ys, q', v, hk, rfl, hys, HP, HO, HS⟩ := hrel
    have hlt : k < n := by
      rcases Nat.lt_or_ge k n with h | h
      · exact h
      · have hz_ := HP.out
        rw [show n - k = 0 by omega] at hz_
        cases hz_
    have hz_ := HP.out
    obtain ⟨m, hm⟩ : ∃ m, n - k = m + 1 := ⟨n - k - 1, by omega⟩
    rw [hm] at hz_
    cases hq : pNum q' with
    | none =>
      have HQ := Aside0.mk hq
      clear hq hz_ HP hm
      obtain ⟨hc, hz⟩ := HS.out.cells
      go_wp2
      refine wp_region_any (by kernel_rfl) ?_
      change wpAny _ _ _ _ _ _ _ (World.drew _)
      refine wpAny_take (i := 0) (v := ?_) rfl (by kernel_rfl) (by kernel_rfl) (by kernel_rfl) (fun _ _ _ h => h) (Or.inl ⟨by rfl, ?_⟩) ?_
      rotate_left
      · intro w; go_simp
        try with_reducible rfl
      refine wpAny_take (i := 2) (v := ?_) rfl (by kernel_rfl) (by kernel_rfl) (by kernel_rfl) (fun _ _ _ h => h) (Or.inl ⟨by rfl, ?_⟩) ?_
      rotate_left
      · intro w; go_simp
        try with_reducible rfl
      refine wpAny_ready (rs := [1, 3]) (by kernel_rfl) (by simp) ?_
      refine AllReady.cons rfl (fun K hK => ?_) (AllReady.cons rfl (fun K hK => ?_) AllReady.nil)
      · go_simp
        refine hK _ _ ?_
        clear hK K
        refine wpAny_ready (rs := [3]) (by kernel_rfl) (by simp) ?_
        refine AllReady.cons rfl (fun K hK => ?_) AllReady.nil
        go_simp
        refine (place_none w0 _ g q' HS.out.drew.rd HQ.out).mono ?_; rintro e w9 ⟨he, hk9, hb9⟩; cases he; have HK9 := Aside0.mk (HS.out.drew.kept.then_ hk9 (fun _ e_ => .inl e_)); have HB9 := Aside0.mk hb9; clear hk9 hb9; exact ⟨rfl, rfl, HK9.out, HB9.out⟩
      · go_simp
        refine (place_none w0 _ g q' HS.out.drew.rd HQ.out).mono ?_; rintro e w9 ⟨he, hk9, hb9⟩; cases he; have HK9 := Aside0.mk (HS.out.drew.kept.then_ hk9 (fun _ e_ => .inl e_)); have HB9 := Aside0.mk hb9; clear hk9 hb9; exact ⟨rfl, rfl, HK9.out, HB9.out⟩
    | some p_ =>
      obtain ⟨y, q2_⟩ := p_
      have hq2 : pPlaces m q2_ = none := by
        cases h : pPlaces m q2_ with
        | none => rfl
        | some p2 => simp only [pPlaces, hq, h] at hz_; cases hz_
      have HQ := Aside0.mk hq
      have HQ2 := Aside0.mk hq2
      have HM := Aside0.mk hm
      clear hq hq2 HP hm hz_
      obtain ⟨hc, hz⟩ := HS.out.cells
      go_wp2
      go_region_law (first
        | (refine goes_ (f := 58) Try.func58 (by kernel_rfl) rfl #[.pointer (some ⟨g, 0, none⟩)] (by rfl) rfl rfl (by simp [Act.eval, Act.put]) ?_; refine (place_some w0 _ g q' HS.out.drew.rd y q2_ HQ.out).mono ?_; rintro e w2 ⟨rfl, hrd, hk2⟩; refine ⟨_, rfl, ?_⟩; have HO2 := Aside0.mk (own_kept (Kd.R_drew HO.out) HS.out.drew.rd (by decide) hk2); have HS2 := Aside0.mk (HS.out.drew.call hrd hk2); clear hk2 hrd hc hz; obtain ⟨hc, hz⟩ := HS2.out.cells; have hc5 : ∀ o, (w2.alloc o).cell? ⟨w1.heap.size, 5, none⟩ = some v := cell_alloc ((hc 5).trans rfl))
        | (refine Kd.R_append_step (Kd.int .i64) (w0 := w0) w0.heap.size (by rfl) (.tmp 51) (.tmp 54) 41 3 (.int .i64 0) 8 rfl Try.underlying41 info3 rfl (by decide) (by omega) v ys (clamp y) [.int .i64 (clamp y)] (fun k => W.heap.size ≤ k) (fun _ => False) (by rfl) (by rfl) ?aP (fun _ hk => hk.elim) ?aF ?aO ?aB ?aS ?aL ?_; (case aP => exact rfl); (case aF => exact (fun k h => Nat.le_trans HS2.out.kept.1 h)); (case aO => exact HO2.out); (case aB => exact HS2.out.rd.base.2.2); (case aS => exact HS2.out.rd.base.2.2.size); (case aL => omega); intro v1 w3 ho hb hg hat; obtain ⟨A5, c5, rfl⟩ := Kd.R_slice ho; rw [show (ys ++ [clamp y]).length = ys.length + 1 from List.length_append] at ho hat; have HO3 := Aside0.mk ho; have HS3 := Aside0.mk (HS2.out.grown HO2.out (by decide) (by decide) hg hb); clear ho hb hg hat hc hz hc5; obtain ⟨hc, hz⟩ := HS3.out.cells))
      all_goals
        go_wp2
        go_roundw
        case rel => exact ⟨k + 1, ys ++ [clamp y], q2_, .slice A5 (ys.length + 1) c5, by omega, by go_num, by simp; omega, ⟨by rw [show n - (k + 1) = m by have := HM.out; omega]; exact HQ2.out⟩, ⟨own_store HO3.out HS3.out.blk (by decide) 5 _⟩, ⟨show St _ _ _ _ _ _ _ #[.int .i64 (opOf x), .int .i64 a1, .int .i64 0, .slice none 0 0, .slice none 0 0, .slice A5 (ys.length + 1) c5] from HS3.out.store HW.out 5 _⟩⟩
        case measure => simp [intOf]; omega
set_option maxRecDepth 100000 in
set_option maxHeartbeats 1000000 in
theorem ins_none20_0 (w0 W : World) (g : Nat) (bs : List Int) (h : Rd w0 W g bs) (hlen : bs.length ≤ 1048576) (x : Int) (q0 : List Int) (h0 : pNum bs = some (x, q0)) (hf : fieldsOf (opOf x) = 20) (hx : pList q0 = none) :
    Calls Try.prog 54 #[.pointer (some ⟨g, 0, none⟩)] W fun e w' => Gives w0 W g e w' := by
  have ml0 := pNum_len h0
  have H := Aside0.mk h
  have HW := Aside0.mk h.base.2.2.size
  have H0 := Aside0.mk h0
  have Hf := Aside0.mk hf
  have HX := Aside0.mk hx
  clear h h0 hf hx
  have hb1 : bits BinOp.and IntKind.i64 20 1 = 0 := by decide
  have hb2 : bits BinOp.and IntKind.i64 20 2 = 0 := by decide
  have hb4 : bits BinOp.and IntKind.i64 20 4 = 4 := by decide
  have hb8 : bits BinOp.and IntKind.i64 20 8 = 0 := by decide
  have hb16 : bits BinOp.and IntKind.i64 20 16 = 16 := by decide
  go_enter Try.func54, Try.ntmps54
  go_wp2_with (first
    | (go_at_call 53; (with_reducible refine (num_some w0 _ g bs (H.out.alloc _) x q0 H0.out).mono ?_); rintro e w1 ⟨rfl, hrd, hk⟩; have HS0 := Aside0.mk (St.start H.out hrd hk (opOf x)); clear hrd hk)
    | (go_at_call 28; refine (fields_is _ 20 Hf.out _).mono ?_; rintro e w' ⟨rfl, ⟨n1, rfl⟩⟩; have HS1 := Aside0.mk (HS0.out.drewN n1); clear HS0)
    | (go_at_call 57; (refine (list_none w0 _ g q0 (HS1.out).rd HX.out (by omega)).mono ?_); rintro e w9 ⟨he, hk, hb⟩; cases he; have HK := Aside0.mk ((HS1.out).kept.then_ hk (fun _ e_ => .inl e_)); have HB := Aside0.mk hb; clear hk hb))
  exact ⟨rfl, rfl, HK.out, HB.out⟩
set_option maxRecDepth 100000 in
set_option maxHeartbeats 1000000 in
theorem ins_none20_1 (w0 W : World) (g : Nat) (bs : List Int) (h : Rd w0 W g bs) (hlen : bs.length ≤ 1048576) (x : Int) (q0 : List Int) (h0 : pNum bs = some (x, q0)) (hf : fieldsOf (opOf x) = 20) (l1 q1 : List Int) (h1 : pList q0 = some (l1, q1)) (hx : pList q1 = none) :
    Calls Try.prog 54 #[.pointer (some ⟨g, 0, none⟩)] W fun e w' => Gives w0 W g e w' := by
  have ml0 := pNum_len h0
  have ml1 := pList_len h1
  have H := Aside0.mk h
  have HW := Aside0.mk h.base.2.2.size
  have H0 := Aside0.mk h0
  have Hf := Aside0.mk hf
  have H1 := Aside0.mk h1
  have HX := Aside0.mk hx
  clear h h0 hf h1 hx
  have hb1 : bits BinOp.and IntKind.i64 20 1 = 0 := by decide
  have hb2 : bits BinOp.and IntKind.i64 20 2 = 0 := by decide
  have hb4 : bits BinOp.and IntKind.i64 20 4 = 4 := by decide
  have hb8 : bits BinOp.and IntKind.i64 20 8 = 0 := by decide
  have hb16 : bits BinOp.and IntKind.i64 20 16 = 16 := by decide
  go_enter Try.func54, Try.ntmps54
  go_wp2_with (first
    | (go_at_call 53; (with_reducible refine (num_some w0 _ g bs (H.out.alloc _) x q0 H0.out).mono ?_); rintro e w1 ⟨rfl, hrd, hk⟩; have HS0 := Aside0.mk (St.start H.out hrd hk (opOf x)); clear hrd hk)
    | (go_at_call 28; refine (fields_is _ 20 Hf.out _).mono ?_; rintro e w' ⟨rfl, ⟨n1, rfl⟩⟩; have HS1 := Aside0.mk (HS0.out.drewN n1); clear HS0)
    | (go_at_call 57; (refine (list_some w0 _ g q0 (HS1.out).rd l1 q1 H1.out (by omega)).mono ?_); rintro e w2 ⟨vN, rfl, ho, hrd, hk⟩; obtain ⟨AN, cN, rfl⟩ := Kd.R_slice ho; have HON := Aside0.mk (Kd.R_mono ho (fun k_ h_ => Nat.le_trans (HS1.out).kept.1 h_)); clear ho; have HS2 := Aside0.mk (show St w0 W w2 g W.heap.size w1.heap.size q1 #[.int .i64 (opOf x), .int .i64 0, .int .i64 0, .slice none 0 0, .slice none 0 0, .slice none 0 0] from (HS1.out).call hrd hk); clear HS1; obtain ⟨hc, hz⟩ := HS2.out.cells; clear hk hrd)
    | (go_at_call 57; (refine (list_none w0 _ g q1 (((HS2.out).store HW.out 3 (.slice AN l1.length cN))).rd HX.out (by omega)).mono ?_); rintro e w9 ⟨he, hk, hb⟩; cases he; have HK := Aside0.mk ((((HS2.out).store HW.out 3 (.slice AN l1.length cN))).kept.then_ hk (fun _ e_ => .inl e_)); have HB := Aside0.mk hb; clear hk hb))
  exact ⟨rfl, rfl, HK.out, HB.out⟩
set_option maxRecDepth 100000 in
set_option maxHeartbeats 1000000 in
theorem ins_none20_2 (w0 W : World) (g : Nat) (bs : List Int) (h : Rd w0 W g bs) (hlen : bs.length ≤ 1048576) (x : Int) (q0 : List Int) (h0 : pNum bs = some (x, q0)) (hf : fieldsOf (opOf x) = 20) (l1 q1 : List Int) (h1 : pList q0 = some (l1, q1)) (l2 q2 : List Int) (h2 : pList q1 = some (l2, q2)) (hx : pCount q2 = none) :
    Calls Try.prog 54 #[.pointer (some ⟨g, 0, none⟩)] W fun e w' => Gives w0 W g e w' := by
  have ml0 := pNum_len h0
  have ml1 := pList_len h1
  have ml2 := pList_len h2
  have H := Aside0.mk h
  have HW := Aside0.mk h.base.2.2.size
  have H0 := Aside0.mk h0
  have Hf := Aside0.mk hf
  have H1 := Aside0.mk h1
  have H2 := Aside0.mk h2
  have HX := Aside0.mk hx
  clear h h0 hf h1 h2 hx
  have hb1 : bits BinOp.and IntKind.i64 20 1 = 0 := by decide
  have hb2 : bits BinOp.and IntKind.i64 20 2 = 0 := by decide
  have hb4 : bits BinOp.and IntKind.i64 20 4 = 4 := by decide
  have hb8 : bits BinOp.and IntKind.i64 20 8 = 0 := by decide
  have hb16 : bits BinOp.and IntKind.i64 20 16 = 16 := by decide
  go_enter Try.func54, Try.ntmps54
  go_wp2_with (first
    | (go_at_call 53; (with_reducible refine (num_some w0 _ g bs (H.out.alloc _) x q0 H0.out).mono ?_); rintro e w1 ⟨rfl, hrd, hk⟩; have HS0 := Aside0.mk (St.start H.out hrd hk (opOf x)); clear hrd hk)
    | (go_at_call 28; refine (fields_is _ 20 Hf.out _).mono ?_; rintro e w' ⟨rfl, ⟨n1, rfl⟩⟩; have HS1 := Aside0.mk (HS0.out.drewN n1); clear HS0)
    | (go_at_call 57; (refine (list_some w0 _ g q0 (HS1.out).rd l1 q1 H1.out (by omega)).mono ?_); rintro e w2 ⟨vN, rfl, ho, hrd, hk⟩; obtain ⟨AN, cN, rfl⟩ := Kd.R_slice ho; have HON := Aside0.mk (Kd.R_mono ho (fun k_ h_ => Nat.le_trans (HS1.out).kept.1 h_)); clear ho; have HS2 := Aside0.mk (show St w0 W w2 g W.heap.size w1.heap.size q1 #[.int .i64 (opOf x), .int .i64 0, .int .i64 0, .slice none 0 0, .slice none 0 0, .slice none 0 0] from (HS1.out).call hrd hk); clear HS1; obtain ⟨hc, hz⟩ := HS2.out.cells; clear hk hrd)
    | (go_at_call 57; (refine (list_some w0 _ g q1 (((HS2.out).store HW.out 3 (.slice AN l1.length cN))).rd l2 q2 H2.out (by omega)).mono ?_); rintro e w3 ⟨vS, rfl, ho, hrd, hk⟩; obtain ⟨AS, cS, rfl⟩ := Kd.R_slice ho; have HOS := Aside0.mk (Kd.R_mono ho (fun k_ h_ => Nat.le_trans (((HS2.out).store HW.out 3 (.slice AN l1.length cN))).kept.1 h_)); clear ho; have HNN := Aside0.mk (own_kept (own_store HON.out (HS2.out).blk (by decide) 3 (.slice AN l1.length cN)) (((HS2.out).store HW.out 3 (.slice AN l1.length cN))).rd (by decide) hk); clear HON; have HON := HNN; clear HNN; have HS3 := Aside0.mk (show St w0 W w3 g W.heap.size w1.heap.size q2 #[.int .i64 (opOf x), .int .i64 0, .int .i64 0, .slice AN l1.length cN, .slice none 0 0, .slice none 0 0] from (((HS2.out).store HW.out 3 (.slice AN l1.length cN))).call hrd hk); clear HS2; clear hc hz; obtain ⟨hc, hz⟩ := HS3.out.cells; clear hk hrd)
    | (go_at_call 51; (refine (cnt_none w0 _ g q2 (((HS3.out).store HW.out 4 (.slice AS l2.length cS))).rd HX.out).mono ?_); rintro e w9 ⟨he, hk, hb⟩; cases he; have HK := Aside0.mk ((((HS3.out).store HW.out 4 (.slice AS l2.length cS))).kept.then_ hk (fun _ e_ => .inl e_)); have HB := Aside0.mk hb; clear hk hb))
  exact ⟨rfl, rfl, HK.out, HB.out⟩
set_option maxRecDepth 100000 in
set_option maxHeartbeats 1000000 in
theorem ins_none20_3 (w0 W : World) (g : Nat) (bs : List Int) (h : Rd w0 W g bs) (hlen : bs.length ≤ 1048576) (x : Int) (q0 : List Int) (h0 : pNum bs = some (x, q0)) (hf : fieldsOf (opOf x) = 20) (l1 q1 : List Int) (h1 : pList q0 = some (l1, q1)) (l2 q2 : List Int) (h2 : pList q1 = some (l2, q2)) (n : Nat) (q3 : List Int) (h3 : pCount q2 = some (n, q3)) (hx : pPlaces n q3 = none) :
    Calls Try.prog 54 #[.pointer (some ⟨g, 0, none⟩)] W fun e w' => Gives w0 W g e w' := by
  have ml0 := pNum_len h0
  have ml1 := pList_len h1
  have ml2 := pList_len h2
  have ml3 := pCount_len h3
  have mn_ := pCount_le h3
  have H := Aside0.mk h
  have HW := Aside0.mk h.base.2.2.size
  have H0 := Aside0.mk h0
  have Hf := Aside0.mk hf
  have H1 := Aside0.mk h1
  have H2 := Aside0.mk h2
  have H3 := Aside0.mk h3
  have HX := Aside0.mk hx
  clear h h0 hf h1 h2 h3 hx
  have hb1 : bits BinOp.and IntKind.i64 20 1 = 0 := by decide
  have hb2 : bits BinOp.and IntKind.i64 20 2 = 0 := by decide
  have hb4 : bits BinOp.and IntKind.i64 20 4 = 4 := by decide
  have hb8 : bits BinOp.and IntKind.i64 20 8 = 0 := by decide
  have hb16 : bits BinOp.and IntKind.i64 20 16 = 16 := by decide
  go_enter Try.func54, Try.ntmps54
  go_wp2_with (first
    | (go_at_call 53; (with_reducible refine (num_some w0 _ g bs (H.out.alloc _) x q0 H0.out).mono ?_); rintro e w1 ⟨rfl, hrd, hk⟩; have HS0 := Aside0.mk (St.start H.out hrd hk (opOf x)); clear hrd hk)
    | (go_at_call 28; refine (fields_is _ 20 Hf.out _).mono ?_; rintro e w' ⟨rfl, ⟨n1, rfl⟩⟩; have HS1 := Aside0.mk (HS0.out.drewN n1); clear HS0)
    | (go_at_call 57; (refine (list_some w0 _ g q0 (HS1.out).rd l1 q1 H1.out (by omega)).mono ?_); rintro e w2 ⟨vN, rfl, ho, hrd, hk⟩; obtain ⟨AN, cN, rfl⟩ := Kd.R_slice ho; have HON := Aside0.mk (Kd.R_mono ho (fun k_ h_ => Nat.le_trans (HS1.out).kept.1 h_)); clear ho; have HS2 := Aside0.mk (show St w0 W w2 g W.heap.size w1.heap.size q1 #[.int .i64 (opOf x), .int .i64 0, .int .i64 0, .slice none 0 0, .slice none 0 0, .slice none 0 0] from (HS1.out).call hrd hk); clear HS1; obtain ⟨hc, hz⟩ := HS2.out.cells; clear hk hrd)
    | (go_at_call 57; (refine (list_some w0 _ g q1 (((HS2.out).store HW.out 3 (.slice AN l1.length cN))).rd l2 q2 H2.out (by omega)).mono ?_); rintro e w3 ⟨vS, rfl, ho, hrd, hk⟩; obtain ⟨AS, cS, rfl⟩ := Kd.R_slice ho; have HOS := Aside0.mk (Kd.R_mono ho (fun k_ h_ => Nat.le_trans (((HS2.out).store HW.out 3 (.slice AN l1.length cN))).kept.1 h_)); clear ho; have HNN := Aside0.mk (own_kept (own_store HON.out (HS2.out).blk (by decide) 3 (.slice AN l1.length cN)) (((HS2.out).store HW.out 3 (.slice AN l1.length cN))).rd (by decide) hk); clear HON; have HON := HNN; clear HNN; have HS3 := Aside0.mk (show St w0 W w3 g W.heap.size w1.heap.size q2 #[.int .i64 (opOf x), .int .i64 0, .int .i64 0, .slice AN l1.length cN, .slice none 0 0, .slice none 0 0] from (((HS2.out).store HW.out 3 (.slice AN l1.length cN))).call hrd hk); clear HS2; clear hc hz; obtain ⟨hc, hz⟩ := HS3.out.cells; clear hk hrd)
    | (go_at_call 51; (refine (cnt_some w0 _ g q2 (((HS3.out).store HW.out 4 (.slice AS l2.length cS))).rd n q3 H3.out).mono ?_); rintro e w4 ⟨rfl, hrd, hk⟩; have HNN := Aside0.mk (own_kept (own_store HON.out (HS3.out).blk (by decide) 4 (.slice AS l2.length cS)) (((HS3.out).store HW.out 4 (.slice AS l2.length cS))).rd (by decide) hk); clear HON; have HON := HNN; clear HNN; have HNS := Aside0.mk (own_kept (own_store HOS.out (HS3.out).blk (by decide) 4 (.slice AS l2.length cS)) (((HS3.out).store HW.out 4 (.slice AS l2.length cS))).rd (by decide) hk); clear HOS; have HOS := HNS; clear HNS; have HS4 := Aside0.mk (show St w0 W w4 g W.heap.size w1.heap.size q3 #[.int .i64 (opOf x), .int .i64 0, .int .i64 0, .slice AN l1.length cN, .slice AS l2.length cS, .slice none 0 0] from (((HS3.out).store HW.out 4 (.slice AS l2.length cS))).call hrd hk); clear HS3; clear hc hz; obtain ⟨hc, hz⟩ := HS4.out.cells; clear hk hrd))
  go_loopw [48] (fun i wr => ∃ (k : Nat) (ys q' : List Int) (v : Value), k ≤ n ∧ i = .int .i64 k ∧ ys.length ≤ k ∧ Aside0 (pPlaces (n - k) q' = none) ∧ Aside0 (Own 3 w0 W wr v ys) ∧ Aside0 (St w0 W wr g W.heap.size w1.heap.size q' #[.int .i64 (opOf x), .int .i64 0, .int .i64 0, .slice AN l1.length cN, .slice AS l2.length cS, v]) ∧ Aside0 (Own 2 w0 W wr (.slice AN l1.length cN) l1) ∧ Aside0 (Own 2 w0 W wr (.slice AS l2.length cS) l2))
    (fun i _ => n - (intOf i).toNat)
  case atStart => exact ⟨0, [], q3, .slice none 0 0, Nat.zero_le _, rfl, Nat.le_refl _, HX, ⟨Kd.R_nil _ _ _ _ _⟩, ⟨show St _ _ _ _ _ _ _ #[.int .i64 (opOf x), .int .i64 0, .int .i64 0, .slice AN l1.length cN, .slice AS l2.length cS, .slice none 0 0] from HS4.out⟩, ⟨HON.out⟩, ⟨HOS.out⟩⟩
  case round =>
    clear HX HS4 hc hz HON HOS
    obtain ⟨k, ys, q', v, hk, rfl, hys, HP, HO, HS, HON, HOS⟩ := hrel
    have hlt : k < n := by
      rcases Nat.lt_or_ge k n with h | h
      · exact h
      · have hz_ := HP.out
        rw [show n - k = 0 by omega] at hz_
        cases hz_
    have hz_ := HP.out
    obtain ⟨m, hm⟩ : ∃ m, n - k = m + 1 := ⟨n - k - 1, by omega⟩
    rw [hm] at hz_
    cases hq : pNum q' with
    | none =>
      have HQ := Aside0.mk hq
      clear hq hz_ HP hm
      obtain ⟨hc, hz⟩ := HS.out.cells
      go_wp2
      refine wp_region_any (by kernel_rfl) ?_
      change wpAny _ _ _ _ _ _ _ (World.drew _)
      refine wpAny_take (i := 0) (v := ?_) rfl (by kernel_rfl) (by kernel_rfl) (by kernel_rfl) (fun _ _ _ h => h) (Or.inl ⟨by rfl, ?_⟩) ?_
      rotate_left
      · intro w; go_simp
        try with_reducible rfl
      refine wpAny_take (i := 2) (v := ?_) rfl (by kernel_rfl) (by kernel_rfl) (by kernel_rfl) (fun _ _ _ h => h) (Or.inl ⟨by rfl, ?_⟩) ?_
      rotate_left
      · intro w; go_simp
        try with_reducible rfl
      refine wpAny_ready (rs := [1, 3]) (by kernel_rfl) (by simp) ?_
      refine AllReady.cons rfl (fun K hK => ?_) (AllReady.cons rfl (fun K hK => ?_) AllReady.nil)
      · go_simp
        refine hK _ _ ?_
        clear hK K
        refine wpAny_ready (rs := [3]) (by kernel_rfl) (by simp) ?_
        refine AllReady.cons rfl (fun K hK => ?_) AllReady.nil
        go_simp
        refine (place_none w0 _ g q' HS.out.drew.rd HQ.out).mono ?_; rintro e w9 ⟨he, hk9, hb9⟩; cases he; have HK9 := Aside0.mk (HS.out.drew.kept.then_ hk9 (fun _ e_ => .inl e_)); have HB9 := Aside0.mk hb9; clear hk9 hb9; exact ⟨rfl, rfl, HK9.out, HB9.out⟩
      · go_simp
        refine (place_none w0 _ g q' HS.out.drew.rd HQ.out).mono ?_; rintro e w9 ⟨he, hk9, hb9⟩; cases he; have HK9 := Aside0.mk (HS.out.drew.kept.then_ hk9 (fun _ e_ => .inl e_)); have HB9 := Aside0.mk hb9; clear hk9 hb9; exact ⟨rfl, rfl, HK9.out, HB9.out⟩
    | some p_ =>
      obtain ⟨y, q2_⟩ := p_
      have hq2 : pPlaces m q2_ = none := by
        cases h : pPlaces m q2_ with
        | none => rfl
        | some p2 => simp only [pPlaces, hq, h] at hz_; cases hz_
      have HQ := Aside0.mk hq
      have HQ2 := Aside0.mk hq2
      have HM := Aside0.mk hm
      clear hq hq2 HP hm hz_
      obtain ⟨hc, hz⟩ := HS.out.cells
      go_wp2
      go_region_law (first
        | (refine goes_ (f := 58) Try.func58 (by kernel_rfl) rfl #[.pointer (some ⟨g, 0, none⟩)] (by rfl) rfl rfl (by simp [Act.eval, Act.put]) ?_; refine (place_some w0 _ g q' HS.out.drew.rd y q2_ HQ.out).mono ?_; rintro e w2 ⟨rfl, hrd, hk2⟩; refine ⟨_, rfl, ?_⟩; have HO2 := Aside0.mk (own_kept (Kd.R_drew HO.out) HS.out.drew.rd (by decide) hk2); have HNN := Aside0.mk (own_kept (Kd.R_drew HON.out) HS.out.drew.rd (by decide) hk2); clear HON; have HON := HNN; clear HNN; have HNS := Aside0.mk (own_kept (Kd.R_drew HOS.out) HS.out.drew.rd (by decide) hk2); clear HOS; have HOS := HNS; clear HNS; have HS2 := Aside0.mk (HS.out.drew.call hrd hk2); clear hk2 hrd hc hz; obtain ⟨hc, hz⟩ := HS2.out.cells; have hc5 : ∀ o, (w2.alloc o).cell? ⟨w1.heap.size, 5, none⟩ = some v := cell_alloc ((hc 5).trans rfl))
        | (refine Kd.R_append_step (Kd.int .i64) (w0 := w0) w0.heap.size (by rfl) (.tmp 51) (.tmp 54) 41 3 (.int .i64 0) 8 rfl Try.underlying41 info3 rfl (by decide) (by omega) v ys (clamp y) [.int .i64 (clamp y)] (fun k => W.heap.size ≤ k) (fun _ => False) (by rfl) (by rfl) ?aP (fun _ hk => hk.elim) ?aF ?aO ?aB ?aS ?aL ?_; (case aP => exact rfl); (case aF => exact (fun k h => Nat.le_trans HS2.out.kept.1 h)); (case aO => exact HO2.out); (case aB => exact HS2.out.rd.base.2.2); (case aS => exact HS2.out.rd.base.2.2.size); (case aL => omega); intro v1 w3 ho hb hg hat; obtain ⟨A5, c5, rfl⟩ := Kd.R_slice ho; rw [show (ys ++ [clamp y]).length = ys.length + 1 from List.length_append] at ho hat; have HO3 := Aside0.mk ho; have HNN := Aside0.mk (own_grown HON.out HO2.out (by decide) hg); clear HON; have HON := HNN; clear HNN; have HNS := Aside0.mk (own_grown HOS.out HO2.out (by decide) hg); clear HOS; have HOS := HNS; clear HNS; have HS3 := Aside0.mk (HS2.out.grown HO2.out (by decide) (by decide) hg hb); clear ho hb hg hat hc hz hc5; obtain ⟨hc, hz⟩ := HS3.out.cells))
      all_goals
        go_wp2
        go_roundw
        case rel => exact ⟨k + 1, ys ++ [clamp y], q2_, .slice A5 (ys.length + 1) c5, by omega, by go_num, by simp; omega, ⟨by rw [show n - (k + 1) = m by have := HM.out; omega]; exact HQ2.out⟩, ⟨own_store HO3.out HS3.out.blk (by decide) 5 _⟩, ⟨show St _ _ _ _ _ _ _ #[.int .i64 (opOf x), .int .i64 0, .int .i64 0, .slice AN l1.length cN, .slice AS l2.length cS, .slice A5 (ys.length + 1) c5] from HS3.out.store HW.out 5 _⟩, ⟨own_store HON.out HS3.out.blk (by decide) 5 _⟩, ⟨own_store HOS.out HS3.out.blk (by decide) 5 _⟩⟩
        case measure => simp [intOf]; omega
end Go.Proofs.Ytmjafkhkoifopaa.C16
end
section
/- The reader of code: an instruction as a whole. -/
namespace Go.Proofs.Ytmjafkhkoifopaa.C16
open Go.RowKit Go.Proofs.YtmjafkhkoifopaaW.PrintWords Go.Proofs.YtmjafkhkoifopaaW.PrintLast Go.Proofs.YtmjafkhkoifopaaW.PrintMore Go.Proofs.Ytmjafkhkoifopaa.PCodeDecodes
set_option linter.unusedVariables false
set_option linter.unusedSimpArgs false
def optNum (c : Bool) (bs : List Int) : Option (Int × List Int) := if c then pNum bs else some (0, bs)
def optList (c : Bool) (bs : List Int) : Option (List Int × List Int) := if c then pList bs else some ([], bs)
def pWay (f : Int) (bs : List Int) : Option (Nat × List Int) := if f == 17 || f == 20 then pCount bs else some (if f == 8 || f == 9 then 1 else 0, bs)
/-- What is read after an instruction's kind f. -/
def pRest (f : Int) (op : Int) (q : List Int) : Option (S43 × List Int) := if f == -1 then none else
  (optNum (f == 1 || f == 3 || f == 9 || f == 17) q).bind fun ⟨a, q1⟩ =>
  (optNum (f == 3) q1).bind fun ⟨b, q2⟩ =>
  (optList (f == 20) q2).bind fun ⟨ns, q3⟩ =>
  (optList (f == 20) q3).bind fun ⟨ts, q4⟩ =>
  (pWay f q4).bind fun ⟨n, q5⟩ =>
  (pPlaces n q5).bind fun ⟨l, r⟩ => some (⟨op, a, b, ns, ts, l⟩, r)
def pIns (bs : List Int) : Option (S43 × List Int) := (pNum bs).bind fun ⟨x, q⟩ => pRest (fieldsOf (opOf x)) (opOf x) q

theorem pRest_0 (op : Int) (q : List Int) : pRest 0 op q = (pPlaces 0 q).bind fun p => some (⟨op, 0, 0, [], [], p.1⟩, p.2) := rfl
theorem pRest_1 (op : Int) (q : List Int) : pRest 1 op q = (pNum q).bind fun p1 => (pPlaces 0 p1.2).bind fun p => some (⟨op, p1.1, 0, [], [], p.1⟩, p.2) := rfl
theorem pRest_3 (op : Int) (q : List Int) : pRest 3 op q = (pNum q).bind fun p1 => (pNum p1.2).bind fun p2 => (pPlaces 0 p2.2).bind fun p => some (⟨op, p1.1, p2.1, [], [], p.1⟩, p.2) := rfl
theorem pRest_8 (op : Int) (q : List Int) : pRest 8 op q = (pPlaces 1 q).bind fun p => some (⟨op, 0, 0, [], [], p.1⟩, p.2) := rfl
theorem pRest_9 (op : Int) (q : List Int) : pRest 9 op q = (pNum q).bind fun p1 => (pPlaces 1 p1.2).bind fun p => some (⟨op, p1.1, 0, [], [], p.1⟩, p.2) := rfl
theorem pRest_17 (op : Int) (q : List Int) : pRest 17 op q = (pNum q).bind fun p1 => (pCount p1.2).bind fun p2 => (pPlaces p2.1 p2.2).bind fun p => some (⟨op, p1.1, 0, [], [], p.1⟩, p.2) := rfl
theorem pRest_20 (op : Int) (q : List Int) : pRest 20 op q = (pList q).bind fun p1 => (pList p1.2).bind fun p2 => (pCount p2.2).bind fun p3 => (pPlaces p3.1 p3.2).bind fun p => some (⟨op, 0, 0, p1.1, p2.1, p.1⟩, p.2) := rfl
theorem fieldsOf_cases (op : Int) : fieldsOf op = -1 ∨ fieldsOf op = 0 ∨ fieldsOf op = 1 ∨ fieldsOf op = 3 ∨ fieldsOf op = 8 ∨ fieldsOf op = 9 ∨ fieldsOf op = 17 ∨ fieldsOf op = 20 := by
  by_cases h : 1 ≤ op ∧ op ≤ 30
  · have hall : ∀ n : Fin 31, fieldsOf (n.val : Int) = -1 ∨ fieldsOf (n.val : Int) = 0 ∨ fieldsOf (n.val : Int) = 1 ∨ fieldsOf (n.val : Int) = 3 ∨ fieldsOf (n.val : Int) = 8 ∨ fieldsOf (n.val : Int) = 9 ∨ fieldsOf (n.val : Int) = 17 ∨ fieldsOf (n.val : Int) = 20 := by decide
    have := hall ⟨op.toNat, by omega⟩
    rwa [show ((op.toNat : Nat) : Int) = op by omega] at this
  · refine .inl ?_
    unfold fieldsOf
    iterate 30 rw [if_neg (by omega)]

abbrev OwnIns (w0 W w : World) (v : Value) (x : S43) : Prop := ∃ v3 v4 v5, v = .agg #[.int .i64 x.f0, .int .i64 x.f1, .int .i64 x.f2, v3, v4, v5] ∧ Own 2 w0 W w v3 x.f3 ∧ Own 2 w0 W w v4 x.f4 ∧ Own 3 w0 W w v5 x.f5

theorem ins_is (w0 W : World) (g : Nat) (bs : List Int) (h : Rd w0 W g bs) (hlen : bs.length ≤ 1048576) :
    Calls Try.prog 54 #[.pointer (some ⟨g, 0, none⟩)] W fun e w' => match pIns bs with
      | none => Gives w0 W g e w'
      | some (x, r) => ∃ v, e = .returned v ∧ OwnIns w0 W w' v x ∧ Rd w0 w' g r ∧ Kept W w' (fun k => k = g) := by
  unfold pIns
  cases h0 : pNum bs with
  | none => exact ins_first_none w0 W g bs h h0
  | some p =>
    obtain ⟨x, q0⟩ := p
    simp only [Option.bind_some]
    have fin : ∀ {a b : Int} {ns ts l r : List Int}, (Calls Try.prog 54 #[.pointer (some ⟨g, 0, none⟩)] W fun e w' => ∃ v3 v4 v5, e = .returned (.agg #[.int .i64 (opOf x), .int .i64 a, .int .i64 b, v3, v4, v5]) ∧ Own 2 w0 W w' v3 ns ∧ Own 2 w0 W w' v4 ts ∧ Own 3 w0 W w' v5 l ∧ Rd w0 w' g r ∧ Kept W w' (fun k => k = g)) →
        Calls Try.prog 54 #[.pointer (some ⟨g, 0, none⟩)] W fun e w' => ∃ v, e = .returned v ∧ OwnIns w0 W w' v (⟨opOf x, a, b, ns, ts, l⟩ : S43) ∧ Rd w0 w' g r ∧ Kept W w' (fun k => k = g) := by
      intro a b ns ts l r hc
      refine hc.mono fun e w' ⟨v3, v4, v5, he, h3, h4, h5, hr, hk⟩ => ?_
      exact ⟨_, he, ⟨v3, v4, v5, rfl, h3, h4, h5⟩, hr, hk⟩
    rcases fieldsOf_cases (opOf x) with hf | hf | hf | hf | hf | hf | hf | hf
    · rw [hf]; exact ins_neg w0 W g bs h x q0 h0 hf
    · rw [hf]
      rw [pRest_0]
      exact fin (ins_some0 w0 W g bs h hlen x q0 h0 hf [] q0 rfl)
    · rw [hf]
      rw [pRest_1]
      cases h1 : pNum q0 with
      | none => exact ins_none1_0 w0 W g bs h hlen x q0 h0 hf h1
      | some p => exact fin (ins_some1 w0 W g bs h hlen x q0 h0 hf p.1 p.2 h1 [] p.2 rfl)
    · rw [hf]
      rw [pRest_3]
      cases h1 : pNum q0 with
      | none => exact ins_none3_0 w0 W g bs h hlen x q0 h0 hf h1
      | some p =>
        simp only [Option.bind_some]
        cases h2 : pNum p.2 with
        | none => exact ins_none3_1 w0 W g bs h hlen x q0 h0 hf p.1 p.2 h1 h2
        | some p2 => exact fin (ins_some3 w0 W g bs h hlen x q0 h0 hf p.1 p.2 h1 p2.1 p2.2 h2 [] p2.2 rfl)
    · rw [hf]
      rw [pRest_8]
      cases hp : pPlaces 1 q0 with
      | none => exact ins_none8_0 w0 W g bs h hlen x q0 h0 hf hp
      | some p => exact fin (ins_some8 w0 W g bs h hlen x q0 h0 hf p.1 p.2 hp)
    · rw [hf]
      rw [pRest_9]
      cases h1 : pNum q0 with
      | none => exact ins_none9_0 w0 W g bs h hlen x q0 h0 hf h1
      | some p =>
        simp only [Option.bind_some]
        cases hp : pPlaces 1 p.2 with
        | none => exact ins_none9_1 w0 W g bs h hlen x q0 h0 hf p.1 p.2 h1 hp
        | some p2 => exact fin (ins_some9 w0 W g bs h hlen x q0 h0 hf p.1 p.2 h1 p2.1 p2.2 hp)
    · rw [hf]
      rw [pRest_17]
      cases h1 : pNum q0 with
      | none => exact ins_none17_0 w0 W g bs h hlen x q0 h0 hf h1
      | some p =>
        simp only [Option.bind_some]
        cases h2 : pCount p.2 with
        | none => exact ins_none17_1 w0 W g bs h hlen x q0 h0 hf p.1 p.2 h1 h2
        | some p2 =>
          simp only [Option.bind_some]
          cases hp : pPlaces p2.1 p2.2 with
          | none => exact ins_none17_2 w0 W g bs h hlen x q0 h0 hf p.1 p.2 h1 p2.1 p2.2 h2 hp
          | some p3 => exact fin (ins_some17 w0 W g bs h hlen x q0 h0 hf p.1 p.2 h1 p2.1 p2.2 h2 p3.1 p3.2 hp)
    · rw [hf]
      rw [pRest_20]
      cases h1 : pList q0 with
      | none => exact ins_none20_0 w0 W g bs h hlen x q0 h0 hf h1
      | some p =>
        simp only [Option.bind_some]
        cases h2 : pList p.2 with
        | none => exact ins_none20_1 w0 W g bs h hlen x q0 h0 hf p.1 p.2 h1 h2
        | some p2 =>
          simp only [Option.bind_some]
          cases h3 : pCount p2.2 with
          | none => exact ins_none20_2 w0 W g bs h hlen x q0 h0 hf p.1 p.2 h1 p2.1 p2.2 h2 h3
          | some p3 =>
            simp only [Option.bind_some]
            cases hp : pPlaces p3.1 p3.2 with
            | none => exact ins_none20_3 w0 W g bs h hlen x q0 h0 hf p.1 p.2 h1 p2.1 p2.2 h2 p3.1 p3.2 h3 hp
            | some p4 => exact fin (ins_some20 w0 W g bs h hlen x q0 h0 hf p.1 p.2 h1 p2.1 p2.2 h2 p3.1 p3.2 h3 p4.1 p4.2 hp)
end Go.Proofs.Ytmjafkhkoifopaa.C16
end
