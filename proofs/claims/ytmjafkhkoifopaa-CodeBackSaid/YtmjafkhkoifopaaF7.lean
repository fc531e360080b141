/- No image's bytes are the beginning of another one's: CodeCuts returns true, and leaves what it was given as it was; whatever the image, the bytes and the number. -/
import Derived.Test.YtmjafkhkoifopaaF8
import Derived.Test.YtmjafkhkoifopaaM7
import Derived.Test.YtmjafkhkoifopaaRows
import Derived.Test.YtmjafkhkoifopaaWSized
import Derived.Below
import Derived.ChangeOld
import Derived.OpenShut
import Derived.ProofKit
import Derived.ShutString
import Derived.SizedLaws
import Derived.WalkKit
/- CodeCuts: its walk. -/
namespace Go.Proofs.Ytmjafkhkoifopaa.C16
open Go.RowKit Go.Proofs.YtmjafkhkoifopaaW.PrintWords Go.Proofs.YtmjafkhkoifopaaW.PrintLast Go.Proofs.YtmjafkhkoifopaaW.PrintMore Go.Proofs.Ytmjafkhkoifopaa.PCodeDecodes
set_option linter.unusedVariables false
set_option linter.unusedSimpArgs false
/-- An image that came in, its box, and bytes that came in. -/
structure One (w wr : World) (A0 : Option Addr) (c0 : Nat) (A1 : Option Addr) (c1 : Nat) (A2 : Option Addr) (c2 : Nat) (es : List S45) (ts : List ByteArray) (cs : List S43) (A : Option Addr) (c : Nat) (bs : List Int) : Prop where
  bel : Below w.heap.size w wr
  hi : ImgAt wr A0 c0 A1 c1 A2 c2 es ts cs
  bi : wr.heap[w.heap.size]? = some (.cells #[.slice A0 es.length c0, .slice A1 ts.length c1, .slice A2 cs.length c2] 26 (0, 0))
  hm : Came wr A c bs
section
variable {w wr w1 : World} {A0 : Option Addr} {c0 : Nat} {A1 : Option Addr} {c1 : Nat} {A2 : Option Addr} {c2 : Nat} {es : List S45} {ts : List ByteArray} {cs : List S43} {A : Option Addr} {c : Nat} {bs : List Int}
theorem One.below (h : One w wr A0 c0 A1 c1 A2 c2 es ts cs A c bs) (hb : Below wr.heap.size wr w1) : One w w1 A0 c0 A1 c1 A2 c2 es ts cs A c bs :=
  ⟨below_then h.bel h.bel.size hb, h.hi.below hb, blk_below h.bi hb, h.hm.below hb⟩
theorem One.cells (h : One w wr A0 c0 A1 c1 A2 c2 es ts cs A c bs) : (∀ j, wr.cell? ⟨w.heap.size, j, none⟩ = #[Value.slice A0 es.length c0, .slice A1 ts.length c1, .slice A2 cs.length c2][j]?) ∧ (∀ j, wr.frozen? ⟨w.heap.size, j, none⟩ = false) :=
  ⟨fun j => blk_cell h.bi j, fun j => blk_frozen h.bi j⟩
theorem One.start (hI : ImgAt w A0 c0 A1 c1 A2 c2 es ts cs) (hM : Came w A c bs) : One w (w.alloc (.cells #[.slice A0 es.length c0, .slice A1 ts.length c1, .slice A2 cs.length c2] 26)) A0 c0 A1 c1 A2 c2 es ts cs A c bs :=
  ⟨below_alloc (Below.refl _ _) _, hI.below (below_alloc (Below.refl _ _) _), blk_new _ _, hM.below (below_alloc (Below.refl _ _) _)⟩
end
theorem empty_row0 (w3 : World) : Kd.R (Kd.int .u8) 5 (w3.alloc (.cells #[] 5)) w3.heap.size (fun _ => True) (.slice (some ⟨w3.heap.size, 0, none⟩) 0 0) [] :=
  Kd.R_of_own (h1 := fun _ => rfl) ⟨rfl, .inr ⟨w3.heap.size, 0, #[], rfl, Nat.le_refl _, blk_new w3 _, Nat.le_refl _, by decide, rfl, rfl⟩⟩ (fun _ _ => trivial)
theorem err3 {n : Nat} {err : Int} (h : n ≤ 65536 ∧ err = 30 ∨ 65536 < n ∧ err = 3) (hn : 65536 < n) : err = 3 := by
  rcases h with ⟨h, _⟩ | ⟨_, h⟩
  · omega
  · exact h
theorem decode_cut {P : Option Addr} {q : Nat} {l : List Int} {m : Nat} {w : World} (hm : m ≤ l.length) (h : Came w P q l) : Calls Try.prog 15 #[.slice P m q] w fun e w' => DecGives (l.take m) w e w' := by
  have ht : (l.take m).length = m := by rw [List.length_take]; omega
  have hc : Kd.C (Kd.int .u8) w P (l.take m).length (l.take m) := Kd.C_take h.2.2 hm
  have hd := decode_is P q (l.take m) w ⟨fun x hx => h.1 x (List.mem_of_mem_take hx), by rw [ht]; exact Nat.le_trans hm h.2.1, hc⟩
  rwa [ht] at hd
theorem enc_err {es : List S45} {ts : List ByteArray} {cs : List S43} {l : List Int} {err : Int} (h : Enc es ts cs l err) (h0 : ¬ err = 0) : err = 5 ∨ err = 3 := by
  rcases h with ⟨_, _, h⟩ | ⟨_, _, _, h⟩ | ⟨_, _, _, h⟩
  · exact .inl h
  · exact .inr h
  · exact absurd h h0
set_option maxRecDepth 100000 in
set_option maxHeartbeats 8000000 in
theorem cuts_calls (A0 : Option Addr) (c0 : Nat) (A1 : Option Addr) (c1 : Nat) (A2 : Option Addr) (c2 : Nat) (es : List S45) (ts : List ByteArray) (cs : List S43) (A : Option Addr) (c : Nat) (bs : List Int) (a : Int) (w : World)
    (hI : ImgAt w A0 c0 A1 c1 A2 c2 es ts cs) (hM : Came w A c bs) (hr : Ranged cs) : Calls Try.prog 7 #[imgV A0 c0 A1 c1 A2 c2 es ts cs, .slice A bs.length c, .int .i64 a] w fun e w' => e = .returned (.bool true) ∧ Below w.heap.size w w' := by
  have HT := Aside0.mk (One.start hI hM)
  have hbl := hM.2.2.2.1
  have HBB := Aside0.mk hM.1
  obtain ⟨b1, hs1, hL1⟩ := large_is A0 c0 A1 c1 A2 c2 es ts cs
  obtain ⟨l1, e1, hE1, hU1⟩ := enc_tells es ts cs
  have HL1 := Aside0.mk hL1
  have HU1 := Aside0.mk hU1
  have HE1 := Aside0.mk hE1
  have HR1 := Aside0.mk hr
  clear hI hM hL1 hU1 hE1 hr
  cases b1 with
  | true =>
    clear hs1
    go_enter Try.func7, Try.ntmps7
    go_wp2_with (first
      | (go_at_call 9; refine (awake_calls _).mono ?_; rintro e w1 ⟨rfl, hb⟩; have HT1 := Aside0.mk (HT.out.below hb); clear hb HT; obtain ⟨k1, k2⟩ := HT1.out.cells)
      | (go_at_call 10; refine (HL1.out _ HT1.out.hi).mono ?_; rintro e w2 ⟨rfl, hb⟩; have HT2 := Aside0.mk (HT1.out.below hb); clear hb HT1 HL1 k1 k2; obtain ⟨k1, k2⟩ := HT2.out.cells))
    go_ret
    exact ⟨rfl, HT2.out.bel⟩
  | false =>
    have HS1 := Aside0.mk (hs1 rfl)
    clear hs1
    by_cases hbig : 131072 < bs.length
    · have hbig' : (131072 : Int) < bs.length := by omega
      go_enter Try.func7, Try.ntmps7
      go_wp2_with (first
        | (go_at_call 9; refine (awake_calls _).mono ?_; rintro e w1 ⟨rfl, hb⟩; have HT1 := Aside0.mk (HT.out.below hb); clear hb HT; obtain ⟨k1, k2⟩ := HT1.out.cells)
        | (go_at_call 10; refine (HL1.out _ HT1.out.hi).mono ?_; rintro e w2 ⟨rfl, hb⟩; have HT2 := Aside0.mk (HT1.out.below hb); clear hb HT1 HL1 k1 k2; obtain ⟨k1, k2⟩ := HT2.out.cells))
      go_ret
      exact ⟨rfl, HT2.out.bel⟩
    · have hbig' : ¬ (131072 : Int) < bs.length := by omega
      by_cases z1 : e1 = 0
      · subst z1
        obtain ⟨m1, n1, rfl⟩ := enc_zero HE1.out
        have HLEN : Aside0 ((encImage es ts cs).length ≤ 65536 ∧ bs.length ≤ 131072) := ⟨n1, by omega⟩
        have HCUTS := Aside0.mk (fun k (hk : k < (encImage es ts cs).length) j hj => cut_none m1 HS1.out HR1.out n1 hk (j := j) hj)
        have HMORE := Aside0.mk (fun (h0 : bs ≠ []) => pImage_more m1 HS1.out HR1.out h0)
        have HBY := Aside0.mk (bytes_enc es ts cs)
        clear m1 n1 HE1
        generalize encImage es ts cs = l1 at *
        by_cases hm0 : 0 < bs.length
        · have HEM : Aside0 (∃ em, em = l1 ++ bs) := ⟨_, rfl⟩
          obtain ⟨em, hem⟩ := HEM.out
          clear HEM
          have HEM := Aside0.mk hem
          have HEMB := Aside0.mk (show Bytes em by rw [hem]; exact Bytes.app HBY.out HBB.out)
          have hel : em.length = l1.length + bs.length := by rw [hem, List.length_append]
          have HCN := Aside0.mk (show ∀ j, pImage em = some j → ¬ MayOk j.es j.ts j.cs from fun j hj => by rw [hem, HMORE.out (List.length_pos_iff.1 hm0)] at hj; cases hj)
          clear hem
          by_cases hsum : l1.length + bs.length ≤ 65536
          · have HELEN := Aside0.mk (show em.length ≤ 65536 by omega)
            have hsum' : ¬ (65536 : Int) < (l1.length : Int) + bs.length := by omega
            clear hel
            by_cases h0 : 0 ≤ a ∧ a < l1.length
            · obtain ⟨m, rfl⟩ := Int.eq_ofNat_of_zero_le h0.1
              have hm1 : m < l1.length := by omega
              have hm2 : (m : Int) < l1.length := h0.2
              have Hmm := Aside0.mk (Nat.le_of_lt hm1)
              have HCUT := Aside0.mk (HCUTS.out m hm1)
              clear h0
              go_enter Try.func7, Try.ntmps7
              go_wp2_with (first
                | (go_at_call 9; refine (awake_calls _).mono ?_; rintro e w1 ⟨rfl, hb⟩; have HT1 := Aside0.mk (HT.out.below hb); clear hb HT; obtain ⟨k1, k2⟩ := HT1.out.cells)
                | (go_at_call 10; refine (HL1.out _ HT1.out.hi).mono ?_; rintro e w2 ⟨rfl, hb⟩; have HT2 := Aside0.mk (HT1.out.below hb); clear hb HT1 HL1 k1 k2; obtain ⟨k1, k2⟩ := HT2.out.cells)
                | (go_at_call 13; refine (encode_at HU1.out HT2.out.hi HS1.out).mono ?_; rintro e w4 ⟨P1, q1, rfl, hC, hb⟩; have HB4 := Aside0.mk (HT2.out.below hb).bel; have HM4 := Aside0.mk (HT2.out.below hb).hm; have HC4 := Aside0.mk hC; clear hb hC HT2 k1 k2; have hq := Nat.le_trans Hmm.out HC4.out.2.1; have hq2 : (m : Int) ≤ q1 := Int.ofNat_le.2 hq)
                | (at_builtin; refine Kd.R_append_rows (Kd.int .u8) (w0 := w4) w4.heap.size rfl (.tmp 39) (.tmp 40) 29 5 (.int .u8 0) 1 rfl Try.underlying29 info5 rfl (by decide) (by omega) (.slice (some ⟨w4.heap.size, 0, none⟩) 0 0) [] l1 P1 l1.length q1 (fun _ => True) (fun _ => False) rfl rfl (empty_row0 w4) (Kd.C_alloc HC4.out.2.2 _) (fun _ _ h => h) (fun _ h => h.elim) (fun _ _ => trivial) (below_alloc (Below.refl _ _) _) ?aS ?aL ?_; (case aS => simp only [World.size_alloc]; omega); (case aL => have := HLEN.out; simp only [List.length_nil]; omega); intro v1 w5 ho hb hg hat; rw [List.nil_append] at ho; have HR5 := Aside0.mk ho; have HB5 := Aside0.mk hb; have HM5 := Aside0.mk (HM4.out.below hb); have HC5 := Aside0.mk (HC4.out.below hb); have HB5w := Aside0.mk (below_then HB4.out HB4.out.size hb); clear ho hb hg hat)
                | (at_builtin; refine Kd.R_append_rows (Kd.int .u8) (w0 := w4) w4.heap.size rfl (.tmp 41) (.tmp 42) 29 5 (.int .u8 0) 1 rfl Try.underlying29 info5 rfl (by decide) (by omega) v1 l1 bs A bs.length c (fun _ => True) (fun _ => False) rfl rfl HR5.out HM5.out.2.2 (fun _ _ h => h) (fun _ h => h.elim) (fun _ _ => trivial) HB5.out HB5.out.size ?bL ?_; (case bL => have := HLEN.out; omega); intro v2 w6 ho hb hg hat; rw [← HEM.out] at ho; obtain ⟨A6, c6, rfl⟩ := Kd.R_slice ho; have HR6 := Aside0.mk (Kd.R_reads' ho).2; have HC6 := Aside0.mk (HC4.out.below hb); have HB6 := Aside0.mk (below_then HB4.out HB4.out.size hb); clear ho hb hg hat HR5 HB5 HM5 HC5 HB5w HB4 HM4 HC4)
                | (go_at_call 15; refine (decode_is A6 c6 em w6 ⟨HEMB.out, HR6.out.1, HR6.out.2⟩).mono ?_; rintro e w7 h7; obtain ⟨err, herr, ⟨F0, f0, F1, f1, F2, f2, rfl⟩, hb⟩ := dec_none h7 HCN.out; obtain rfl := err30 herr HELEN.out; have HC7 := Aside0.mk (HC6.out.below hb); have HB7 := Aside0.mk (below_then HB6.out HB6.out.size hb); clear h7 herr hb HC6 HB6 HR6)
                | (go_at_call 15; refine (decode_cut (l := l1) (m := m) Hmm.out (HC7.out.below (below_alloc (Below.refl _ _) _))).mono ?_; rintro e w9 h9; obtain ⟨err, herr, ⟨F3, f3, F4, f4, F5, f5, rfl⟩, hb⟩ := dec_none h9 HCUT.out; obtain rfl := err30 herr (by rw [List.length_take]; have := HLEN.out; omega); have HB9 := Aside0.mk (below_then (below_alloc HB7.out _) (below_alloc HB7.out _).size hb); clear h9 herr hb))
              go_ret
              exact ⟨rfl, below_alloc HB9.out _⟩
            · by_cases h1 : 0 ≤ a
              · have h2 : ¬ a < l1.length := fun h => h0 ⟨h1, h⟩
                clear h0
                go_enter Try.func7, Try.ntmps7
                go_wp2_with (first
                  | (go_at_call 9; refine (awake_calls _).mono ?_; rintro e w1 ⟨rfl, hb⟩; have HT1 := Aside0.mk (HT.out.below hb); clear hb HT; obtain ⟨k1, k2⟩ := HT1.out.cells)
                  | (go_at_call 10; refine (HL1.out _ HT1.out.hi).mono ?_; rintro e w2 ⟨rfl, hb⟩; have HT2 := Aside0.mk (HT1.out.below hb); clear hb HT1 HL1 k1 k2; obtain ⟨k1, k2⟩ := HT2.out.cells)
                  | (go_at_call 13; refine (encode_at HU1.out HT2.out.hi HS1.out).mono ?_; rintro e w4 ⟨P1, q1, rfl, hC, hb⟩; have HB4 := Aside0.mk (HT2.out.below hb).bel; have HM4 := Aside0.mk (HT2.out.below hb).hm; have HC4 := Aside0.mk hC; clear hb hC HT2 k1 k2)
                  | (at_builtin; refine Kd.R_append_rows (Kd.int .u8) (w0 := w4) w4.heap.size rfl (.tmp 39) (.tmp 40) 29 5 (.int .u8 0) 1 rfl Try.underlying29 info5 rfl (by decide) (by omega) (.slice (some ⟨w4.heap.size, 0, none⟩) 0 0) [] l1 P1 l1.length q1 (fun _ => True) (fun _ => False) rfl rfl (empty_row0 w4) (Kd.C_alloc HC4.out.2.2 _) (fun _ _ h => h) (fun _ h => h.elim) (fun _ _ => trivial) (below_alloc (Below.refl _ _) _) ?aS ?aL ?_; (case aS => simp only [World.size_alloc]; omega); (case aL => have := HLEN.out; simp only [List.length_nil]; omega); intro v1 w5 ho hb hg hat; rw [List.nil_append] at ho; have HR5 := Aside0.mk ho; have HB5 := Aside0.mk hb; have HM5 := Aside0.mk (HM4.out.below hb); have HC5 := Aside0.mk (HC4.out.below hb); have HB5w := Aside0.mk (below_then HB4.out HB4.out.size hb); clear ho hb hg hat)
                  | (at_builtin; refine Kd.R_append_rows (Kd.int .u8) (w0 := w4) w4.heap.size rfl (.tmp 41) (.tmp 42) 29 5 (.int .u8 0) 1 rfl Try.underlying29 info5 rfl (by decide) (by omega) v1 l1 bs A bs.length c (fun _ => True) (fun _ => False) rfl rfl HR5.out HM5.out.2.2 (fun _ _ h => h) (fun _ h => h.elim) (fun _ _ => trivial) HB5.out HB5.out.size ?bL ?_; (case bL => have := HLEN.out; omega); intro v2 w6 ho hb hg hat; rw [← HEM.out] at ho; obtain ⟨A6, c6, rfl⟩ := Kd.R_slice ho; have HR6 := Aside0.mk (Kd.R_reads' ho).2; have HC6 := Aside0.mk (HC4.out.below hb); have HB6 := Aside0.mk (below_then HB4.out HB4.out.size hb); clear ho hb hg hat HR5 HB5 HM5 HC5 HB5w HB4 HM4 HC4)
                  | (go_at_call 15; refine (decode_is A6 c6 em w6 ⟨HEMB.out, HR6.out.1, HR6.out.2⟩).mono ?_; rintro e w7 h7; obtain ⟨err, herr, ⟨F0, f0, F1, f1, F2, f2, rfl⟩, hb⟩ := dec_none h7 HCN.out; obtain rfl := err30 herr HELEN.out; have HC7 := Aside0.mk (HC6.out.below hb); have HB7 := Aside0.mk (below_then HB6.out HB6.out.size hb); clear h7 herr hb HC6 HB6 HR6))
                go_ret
                exact ⟨rfl, (below_alloc HB7.out _)⟩
              · clear h0
                go_enter Try.func7, Try.ntmps7
                go_wp2_with (first
                  | (go_at_call 9; refine (awake_calls _).mono ?_; rintro e w1 ⟨rfl, hb⟩; have HT1 := Aside0.mk (HT.out.below hb); clear hb HT; obtain ⟨k1, k2⟩ := HT1.out.cells)
                  | (go_at_call 10; refine (HL1.out _ HT1.out.hi).mono ?_; rintro e w2 ⟨rfl, hb⟩; have HT2 := Aside0.mk (HT1.out.below hb); clear hb HT1 HL1 k1 k2; obtain ⟨k1, k2⟩ := HT2.out.cells)
                  | (go_at_call 13; refine (encode_at HU1.out HT2.out.hi HS1.out).mono ?_; rintro e w4 ⟨P1, q1, rfl, hC, hb⟩; have HB4 := Aside0.mk (HT2.out.below hb).bel; have HM4 := Aside0.mk (HT2.out.below hb).hm; have HC4 := Aside0.mk hC; clear hb hC HT2 k1 k2)
                  | (at_builtin; refine Kd.R_append_rows (Kd.int .u8) (w0 := w4) w4.heap.size rfl (.tmp 39) (.tmp 40) 29 5 (.int .u8 0) 1 rfl Try.underlying29 info5 rfl (by decide) (by omega) (.slice (some ⟨w4.heap.size, 0, none⟩) 0 0) [] l1 P1 l1.length q1 (fun _ => True) (fun _ => False) rfl rfl (empty_row0 w4) (Kd.C_alloc HC4.out.2.2 _) (fun _ _ h => h) (fun _ h => h.elim) (fun _ _ => trivial) (below_alloc (Below.refl _ _) _) ?aS ?aL ?_; (case aS => simp only [World.size_alloc]; omega); (case aL => have := HLEN.out; simp only [List.length_nil]; omega); intro v1 w5 ho hb hg hat; rw [List.nil_append] at ho; have HR5 := Aside0.mk ho; have HB5 := Aside0.mk hb; have HM5 := Aside0.mk (HM4.out.below hb); have HC5 := Aside0.mk (HC4.out.below hb); have HB5w := Aside0.mk (below_then HB4.out HB4.out.size hb); clear ho hb hg hat)
                  | (at_builtin; refine Kd.R_append_rows (Kd.int .u8) (w0 := w4) w4.heap.size rfl (.tmp 41) (.tmp 42) 29 5 (.int .u8 0) 1 rfl Try.underlying29 info5 rfl (by decide) (by omega) v1 l1 bs A bs.length c (fun _ => True) (fun _ => False) rfl rfl HR5.out HM5.out.2.2 (fun _ _ h => h) (fun _ h => h.elim) (fun _ _ => trivial) HB5.out HB5.out.size ?bL ?_; (case bL => have := HLEN.out; omega); intro v2 w6 ho hb hg hat; rw [← HEM.out] at ho; obtain ⟨A6, c6, rfl⟩ := Kd.R_slice ho; have HR6 := Aside0.mk (Kd.R_reads' ho).2; have HC6 := Aside0.mk (HC4.out.below hb); have HB6 := Aside0.mk (below_then HB4.out HB4.out.size hb); clear ho hb hg hat HR5 HB5 HM5 HC5 HB5w HB4 HM4 HC4)
                  | (go_at_call 15; refine (decode_is A6 c6 em w6 ⟨HEMB.out, HR6.out.1, HR6.out.2⟩).mono ?_; rintro e w7 h7; obtain ⟨err, herr, ⟨F0, f0, F1, f1, F2, f2, rfl⟩, hb⟩ := dec_none h7 HCN.out; obtain rfl := err30 herr HELEN.out; have HC7 := Aside0.mk (HC6.out.below hb); have HB7 := Aside0.mk (below_then HB6.out HB6.out.size hb); clear h7 herr hb HC6 HB6 HR6))
                go_ret
                exact ⟨rfl, (below_alloc HB7.out _)⟩
          · have HELEN := Aside0.mk (show 65536 < em.length by omega)
            have hw : IntKind.i64.wrap ((l1.length : Int) + bs.length) = (l1.length : Int) + bs.length := (i64_w _).trans (wrap_id (by have := HLEN.out; omega) (by have := HLEN.out; omega))
            have hsum' : ¬ (l1.length : Int) + bs.length ≤ 65536 := by omega
            have hsum'' : decide ((l1.length : Int) + bs.length ≤ 65536) = false := decide_eq_false hsum'
            have hsum3 : ¬ l1.length + bs.length ≤ 65536 := hsum
            clear hel
            by_cases h0 : 0 ≤ a ∧ a < l1.length
            · obtain ⟨m, rfl⟩ := Int.eq_ofNat_of_zero_le h0.1
              have hm1 : m < l1.length := by omega
              have hm2 : (m : Int) < l1.length := h0.2
              have Hmm := Aside0.mk (Nat.le_of_lt hm1)
              have HCUT := Aside0.mk (HCUTS.out m hm1)
              clear h0
              go_enter Try.func7, Try.ntmps7
              go_wp2_with (first
                | (go_at_call 9; refine (awake_calls _).mono ?_; rintro e w1 ⟨rfl, hb⟩; have HT1 := Aside0.mk (HT.out.below hb); clear hb HT; obtain ⟨k1, k2⟩ := HT1.out.cells)
                | (go_at_call 10; refine (HL1.out _ HT1.out.hi).mono ?_; rintro e w2 ⟨rfl, hb⟩; have HT2 := Aside0.mk (HT1.out.below hb); clear hb HT1 HL1 k1 k2; obtain ⟨k1, k2⟩ := HT2.out.cells)
                | (go_at_call 13; refine (encode_at HU1.out HT2.out.hi HS1.out).mono ?_; rintro e w4 ⟨P1, q1, rfl, hC, hb⟩; have HB4 := Aside0.mk (HT2.out.below hb).bel; have HM4 := Aside0.mk (HT2.out.below hb).hm; have HC4 := Aside0.mk hC; clear hb hC HT2 k1 k2; have hq := Nat.le_trans Hmm.out HC4.out.2.1; have hq2 : (m : Int) ≤ q1 := Int.ofNat_le.2 hq)
                | (at_builtin; refine Kd.R_append_rows (Kd.int .u8) (w0 := w4) w4.heap.size rfl (.tmp 39) (.tmp 40) 29 5 (.int .u8 0) 1 rfl Try.underlying29 info5 rfl (by decide) (by omega) (.slice (some ⟨w4.heap.size, 0, none⟩) 0 0) [] l1 P1 l1.length q1 (fun _ => True) (fun _ => False) rfl rfl (empty_row0 w4) (Kd.C_alloc HC4.out.2.2 _) (fun _ _ h => h) (fun _ h => h.elim) (fun _ _ => trivial) (below_alloc (Below.refl _ _) _) ?aS ?aL ?_; (case aS => simp only [World.size_alloc]; omega); (case aL => have := HLEN.out; simp only [List.length_nil]; omega); intro v1 w5 ho hb hg hat; rw [List.nil_append] at ho; have HR5 := Aside0.mk ho; have HB5 := Aside0.mk hb; have HM5 := Aside0.mk (HM4.out.below hb); have HC5 := Aside0.mk (HC4.out.below hb); have HB5w := Aside0.mk (below_then HB4.out HB4.out.size hb); clear ho hb hg hat)
                | (at_builtin; refine Kd.R_append_rows (Kd.int .u8) (w0 := w4) w4.heap.size rfl (.tmp 41) (.tmp 42) 29 5 (.int .u8 0) 1 rfl Try.underlying29 info5 rfl (by decide) (by omega) v1 l1 bs A bs.length c (fun _ => True) (fun _ => False) rfl rfl HR5.out HM5.out.2.2 (fun _ _ h => h) (fun _ h => h.elim) (fun _ _ => trivial) HB5.out HB5.out.size ?bL ?_; (case bL => have := HLEN.out; omega); intro v2 w6 ho hb hg hat; rw [← HEM.out] at ho; obtain ⟨A6, c6, rfl⟩ := Kd.R_slice ho; have HR6 := Aside0.mk (Kd.R_reads' ho).2; have HC6 := Aside0.mk (HC4.out.below hb); have HB6 := Aside0.mk (below_then HB4.out HB4.out.size hb); clear ho hb hg hat HR5 HB5 HM5 HC5 HB5w HB4 HM4 HC4)
                | (go_at_call 15; refine (decode_is A6 c6 em w6 ⟨HEMB.out, HR6.out.1, HR6.out.2⟩).mono ?_; rintro e w7 h7; obtain ⟨err, herr, ⟨F0, f0, F1, f1, F2, f2, rfl⟩, hb⟩ := dec_none h7 HCN.out; obtain rfl := err3 herr HELEN.out; have HC7 := Aside0.mk (HC6.out.below hb); have HB7 := Aside0.mk (below_then HB6.out HB6.out.size hb); clear h7 herr hb HC6 HB6 HR6)
                | (go_at_call 15; refine (decode_cut (l := l1) (m := m) Hmm.out (HC7.out.below (below_alloc (Below.refl _ _) _))).mono ?_; rintro e w9 h9; obtain ⟨err, herr, ⟨F3, f3, F4, f4, F5, f5, rfl⟩, hb⟩ := dec_none h9 HCUT.out; obtain rfl := err30 herr (by rw [List.length_take]; have := HLEN.out; omega); have HB9 := Aside0.mk (below_then (below_alloc HB7.out _) (below_alloc HB7.out _).size hb); clear h9 herr hb))
              go_ret
              exact ⟨rfl, below_alloc HB9.out _⟩
            · by_cases h1 : 0 ≤ a
              · have h2 : ¬ a < l1.length := fun h => h0 ⟨h1, h⟩
                clear h0
                go_enter Try.func7, Try.ntmps7
                go_wp2_with (first
                  | (go_at_call 9; refine (awake_calls _).mono ?_; rintro e w1 ⟨rfl, hb⟩; have HT1 := Aside0.mk (HT.out.below hb); clear hb HT; obtain ⟨k1, k2⟩ := HT1.out.cells)
                  | (go_at_call 10; refine (HL1.out _ HT1.out.hi).mono ?_; rintro e w2 ⟨rfl, hb⟩; have HT2 := Aside0.mk (HT1.out.below hb); clear hb HT1 HL1 k1 k2; obtain ⟨k1, k2⟩ := HT2.out.cells)
                  | (go_at_call 13; refine (encode_at HU1.out HT2.out.hi HS1.out).mono ?_; rintro e w4 ⟨P1, q1, rfl, hC, hb⟩; have HB4 := Aside0.mk (HT2.out.below hb).bel; have HM4 := Aside0.mk (HT2.out.below hb).hm; have HC4 := Aside0.mk hC; clear hb hC HT2 k1 k2)
                  | (at_builtin; refine Kd.R_append_rows (Kd.int .u8) (w0 := w4) w4.heap.size rfl (.tmp 39) (.tmp 40) 29 5 (.int .u8 0) 1 rfl Try.underlying29 info5 rfl (by decide) (by omega) (.slice (some ⟨w4.heap.size, 0, none⟩) 0 0) [] l1 P1 l1.length q1 (fun _ => True) (fun _ => False) rfl rfl (empty_row0 w4) (Kd.C_alloc HC4.out.2.2 _) (fun _ _ h => h) (fun _ h => h.elim) (fun _ _ => trivial) (below_alloc (Below.refl _ _) _) ?aS ?aL ?_; (case aS => simp only [World.size_alloc]; omega); (case aL => have := HLEN.out; simp only [List.length_nil]; omega); intro v1 w5 ho hb hg hat; rw [List.nil_append] at ho; have HR5 := Aside0.mk ho; have HB5 := Aside0.mk hb; have HM5 := Aside0.mk (HM4.out.below hb); have HC5 := Aside0.mk (HC4.out.below hb); have HB5w := Aside0.mk (below_then HB4.out HB4.out.size hb); clear ho hb hg hat)
                  | (at_builtin; refine Kd.R_append_rows (Kd.int .u8) (w0 := w4) w4.heap.size rfl (.tmp 41) (.tmp 42) 29 5 (.int .u8 0) 1 rfl Try.underlying29 info5 rfl (by decide) (by omega) v1 l1 bs A bs.length c (fun _ => True) (fun _ => False) rfl rfl HR5.out HM5.out.2.2 (fun _ _ h => h) (fun _ h => h.elim) (fun _ _ => trivial) HB5.out HB5.out.size ?bL ?_; (case bL => have := HLEN.out; omega); intro v2 w6 ho hb hg hat; rw [← HEM.out] at ho; obtain ⟨A6, c6, rfl⟩ := Kd.R_slice ho; have HR6 := Aside0.mk (Kd.R_reads' ho).2; have HC6 := Aside0.mk (HC4.out.below hb); have HB6 := Aside0.mk (below_then HB4.out HB4.out.size hb); clear ho hb hg hat HR5 HB5 HM5 HC5 HB5w HB4 HM4 HC4)
                  | (go_at_call 15; refine (decode_is A6 c6 em w6 ⟨HEMB.out, HR6.out.1, HR6.out.2⟩).mono ?_; rintro e w7 h7; obtain ⟨err, herr, ⟨F0, f0, F1, f1, F2, f2, rfl⟩, hb⟩ := dec_none h7 HCN.out; obtain rfl := err3 herr HELEN.out; have HC7 := Aside0.mk (HC6.out.below hb); have HB7 := Aside0.mk (below_then HB6.out HB6.out.size hb); clear h7 herr hb HC6 HB6 HR6))
                go_ret
                exact ⟨rfl, (below_alloc HB7.out _)⟩
              · clear h0
                go_enter Try.func7, Try.ntmps7
                go_wp2_with (first
                  | (go_at_call 9; refine (awake_calls _).mono ?_; rintro e w1 ⟨rfl, hb⟩; have HT1 := Aside0.mk (HT.out.below hb); clear hb HT; obtain ⟨k1, k2⟩ := HT1.out.cells)
                  | (go_at_call 10; refine (HL1.out _ HT1.out.hi).mono ?_; rintro e w2 ⟨rfl, hb⟩; have HT2 := Aside0.mk (HT1.out.below hb); clear hb HT1 HL1 k1 k2; obtain ⟨k1, k2⟩ := HT2.out.cells)
                  | (go_at_call 13; refine (encode_at HU1.out HT2.out.hi HS1.out).mono ?_; rintro e w4 ⟨P1, q1, rfl, hC, hb⟩; have HB4 := Aside0.mk (HT2.out.below hb).bel; have HM4 := Aside0.mk (HT2.out.below hb).hm; have HC4 := Aside0.mk hC; clear hb hC HT2 k1 k2)
                  | (at_builtin; refine Kd.R_append_rows (Kd.int .u8) (w0 := w4) w4.heap.size rfl (.tmp 39) (.tmp 40) 29 5 (.int .u8 0) 1 rfl Try.underlying29 info5 rfl (by decide) (by omega) (.slice (some ⟨w4.heap.size, 0, none⟩) 0 0) [] l1 P1 l1.length q1 (fun _ => True) (fun _ => False) rfl rfl (empty_row0 w4) (Kd.C_alloc HC4.out.2.2 _) (fun _ _ h => h) (fun _ h => h.elim) (fun _ _ => trivial) (below_alloc (Below.refl _ _) _) ?aS ?aL ?_; (case aS => simp only [World.size_alloc]; omega); (case aL => have := HLEN.out; simp only [List.length_nil]; omega); intro v1 w5 ho hb hg hat; rw [List.nil_append] at ho; have HR5 := Aside0.mk ho; have HB5 := Aside0.mk hb; have HM5 := Aside0.mk (HM4.out.below hb); have HC5 := Aside0.mk (HC4.out.below hb); have HB5w := Aside0.mk (below_then HB4.out HB4.out.size hb); clear ho hb hg hat)
                  | (at_builtin; refine Kd.R_append_rows (Kd.int .u8) (w0 := w4) w4.heap.size rfl (.tmp 41) (.tmp 42) 29 5 (.int .u8 0) 1 rfl Try.underlying29 info5 rfl (by decide) (by omega) v1 l1 bs A bs.length c (fun _ => True) (fun _ => False) rfl rfl HR5.out HM5.out.2.2 (fun _ _ h => h) (fun _ h => h.elim) (fun _ _ => trivial) HB5.out HB5.out.size ?bL ?_; (case bL => have := HLEN.out; omega); intro v2 w6 ho hb hg hat; rw [← HEM.out] at ho; obtain ⟨A6, c6, rfl⟩ := Kd.R_slice ho; have HR6 := Aside0.mk (Kd.R_reads' ho).2; have HC6 := Aside0.mk (HC4.out.below hb); have HB6 := Aside0.mk (below_then HB4.out HB4.out.size hb); clear ho hb hg hat HR5 HB5 HM5 HC5 HB5w HB4 HM4 HC4)
                  | (go_at_call 15; refine (decode_is A6 c6 em w6 ⟨HEMB.out, HR6.out.1, HR6.out.2⟩).mono ?_; rintro e w7 h7; obtain ⟨err, herr, ⟨F0, f0, F1, f1, F2, f2, rfl⟩, hb⟩ := dec_none h7 HCN.out; obtain rfl := err3 herr HELEN.out; have HC7 := Aside0.mk (HC6.out.below hb); have HB7 := Aside0.mk (below_then HB6.out HB6.out.size hb); clear h7 herr hb HC6 HB6 HR6))
                go_ret
                exact ⟨rfl, (below_alloc HB7.out _)⟩
        · by_cases h0 : 0 ≤ a ∧ a < l1.length
          · obtain ⟨m, rfl⟩ := Int.eq_ofNat_of_zero_le h0.1
            have hm1 : m < l1.length := by omega
            have hm2 : (m : Int) < l1.length := h0.2
            have Hmm := Aside0.mk (Nat.le_of_lt hm1)
            have HCUT := Aside0.mk (HCUTS.out m hm1)
            clear h0
            go_enter Try.func7, Try.ntmps7
            go_wp2_with (first
              | (go_at_call 9; refine (awake_calls _).mono ?_; rintro e w1 ⟨rfl, hb⟩; have HT1 := Aside0.mk (HT.out.below hb); clear hb HT; obtain ⟨k1, k2⟩ := HT1.out.cells)
              | (go_at_call 10; refine (HL1.out _ HT1.out.hi).mono ?_; rintro e w2 ⟨rfl, hb⟩; have HT2 := Aside0.mk (HT1.out.below hb); clear hb HT1 HL1 k1 k2; obtain ⟨k1, k2⟩ := HT2.out.cells)
              | (go_at_call 13; refine (encode_at HU1.out HT2.out.hi HS1.out).mono ?_; rintro e w4 ⟨P1, q1, rfl, hC, hb⟩; have HB4 := Aside0.mk (HT2.out.below hb).bel; have HM4 := Aside0.mk (HT2.out.below hb).hm; have HC4 := Aside0.mk hC; clear hb hC HT2 k1 k2; have hq := Nat.le_trans Hmm.out HC4.out.2.1; have hq2 : (m : Int) ≤ q1 := Int.ofNat_le.2 hq)
              | (go_at_call 15; refine (decode_cut (l := l1) (m := m) Hmm.out HC4.out).mono ?_; rintro e w9 h9; obtain ⟨err, herr, ⟨F3, f3, F4, f4, F5, f5, rfl⟩, hb⟩ := dec_none h9 HCUT.out; obtain rfl := err30 herr (by rw [List.length_take]; have := HLEN.out; omega); have HB9 := Aside0.mk (below_then HB4.out HB4.out.size hb); clear h9 herr hb))
            go_ret
            exact ⟨rfl, below_alloc HB9.out _⟩
          · by_cases h1 : 0 ≤ a
            · have h2 : ¬ a < l1.length := fun h => h0 ⟨h1, h⟩
              clear h0
              go_enter Try.func7, Try.ntmps7
              go_wp2_with (first
                | (go_at_call 9; refine (awake_calls _).mono ?_; rintro e w1 ⟨rfl, hb⟩; have HT1 := Aside0.mk (HT.out.below hb); clear hb HT; obtain ⟨k1, k2⟩ := HT1.out.cells)
                | (go_at_call 10; refine (HL1.out _ HT1.out.hi).mono ?_; rintro e w2 ⟨rfl, hb⟩; have HT2 := Aside0.mk (HT1.out.below hb); clear hb HT1 HL1 k1 k2; obtain ⟨k1, k2⟩ := HT2.out.cells)
                | (go_at_call 13; refine (encode_at HU1.out HT2.out.hi HS1.out).mono ?_; rintro e w4 ⟨P1, q1, rfl, hC, hb⟩; have HB4 := Aside0.mk (HT2.out.below hb).bel; have HM4 := Aside0.mk (HT2.out.below hb).hm; have HC4 := Aside0.mk hC; clear hb hC HT2 k1 k2))
              go_ret
              exact ⟨rfl, HB4.out⟩
            · clear h0
              go_enter Try.func7, Try.ntmps7
              go_wp2_with (first
                | (go_at_call 9; refine (awake_calls _).mono ?_; rintro e w1 ⟨rfl, hb⟩; have HT1 := Aside0.mk (HT.out.below hb); clear hb HT; obtain ⟨k1, k2⟩ := HT1.out.cells)
                | (go_at_call 10; refine (HL1.out _ HT1.out.hi).mono ?_; rintro e w2 ⟨rfl, hb⟩; have HT2 := Aside0.mk (HT1.out.below hb); clear hb HT1 HL1 k1 k2; obtain ⟨k1, k2⟩ := HT2.out.cells)
                | (go_at_call 13; refine (encode_at HU1.out HT2.out.hi HS1.out).mono ?_; rintro e w4 ⟨P1, q1, rfl, hC, hb⟩; have HB4 := Aside0.mk (HT2.out.below hb).bel; have HM4 := Aside0.mk (HT2.out.below hb).hm; have HC4 := Aside0.mk hC; clear hb hC HT2 k1 k2))
              go_ret
              exact ⟨rfl, HB4.out⟩
      · have z1' : (e1 == 0) = false := by rw [beq_eq_false_iff_ne]; exact z1
        have z1'' : (e1 != 0) = true := by simpa using z1
        rcases enc_err HE1.out z1 with rfl | rfl
        all_goals
          go_enter Try.func7, Try.ntmps7
          go_wp2_with (first
            | (go_at_call 9; refine (awake_calls _).mono ?_; rintro e w1 ⟨rfl, hb⟩; have HT1 := Aside0.mk (HT.out.below hb); clear hb HT; obtain ⟨k1, k2⟩ := HT1.out.cells)
            | (go_at_call 10; refine (HL1.out _ HT1.out.hi).mono ?_; rintro e w2 ⟨rfl, hb⟩; have HT2 := Aside0.mk (HT1.out.below hb); clear hb HT1 HL1 k1 k2; obtain ⟨k1, k2⟩ := HT2.out.cells)
            | (go_at_call 13; refine (encode_at HU1.out HT2.out.hi HS1.out).mono ?_; rintro e w4 ⟨P1, q1, rfl, hC, hb⟩; have HB4 := Aside0.mk (HT2.out.below hb).bel; have HM4 := Aside0.mk (HT2.out.below hb).hm; have HC4 := Aside0.mk hC; clear hb hC HT2 k1 k2))
          go_ret
          exact ⟨rfl, HB4.out⟩
end Go.Proofs.Ytmjafkhkoifopaa.C16
/- No image's bytes are the beginning of another one's: CodeCuts returns true whatever the image, the bytes and the number, and leaves what it was given as it was. -/
namespace Go.Proofs.Ytmjafkhkoifopaa.codeCuts
open Go.ChangeShapes Go.WideShapes Go.ChangeAt Go.RowKit Go.Proofs.Ytmjafkhkoifopaa.C16
open Go.ChangeMaps (open_string shut_string)
set_option linter.unusedVariables false
theorem own : ownKnob Try.prog.godebug = none := by kernel_rfl
theorem laidOut : laidOutB Try.prog = true := by kernel_rfl
set_option maxRecDepth 100000 in
theorem lifted (os : Os) (started : os.Started) (H : Type) (enc : TypeId × Value → H) :
    ReturnsInHanded {} Try.checked os 7 .any (Rows.codeCutsSpec.pre6 enc Try.prog Try.f7 Rows.codeCutsRow.domain false) (Rows.codeCutsSpec.post enc Try.prog Try.f7 false true false false) := by
  refine returnsInHanded_of_change_sized (C := Try.checked) own started (by kernel_rfl) Try.func7
    (ChangeSpec.witness6 (enc := enc) (C := Try.checked) false ⟨#[], #[.agg #[.slice none 0 0, .slice none 0 0, .slice none 0 0], .slice none 0 0, .int .i64 0], []⟩ 8 (by kernel_rfl) (by kernel_rfl) (by kernel_rfl) (by kernel_rfl)) ?_
  intro W base args ds gs before hval0 hW hcnd hsz0 _
  have hval : ∀ (j : Nat) t v, Try.f7.params[j]? = some t → args[j]? = some v → Value.okWide Try.prog W .any base t v := hval0
  have hW' := hW
  obtain ⟨p, q, hA0, hV, rfl, hfz, hnd⟩ := hW
  have hA : DataW.TrodAll enc Try.prog W 0 (fun _ => true) true Try.f7.params.toList args.toList ds p := hA0
  rw [Try.params7] at hA hval
  obtain ⟨v0, vs0, d0, ds0, p0, q0, hargs, rfl, rfl, h0, r0⟩ := trodAll_cons hA
  obtain ⟨v1, vs1, d1, ds1, p1, q1, rfl, rfl, rfl, h1, r1⟩ := trodAll_cons r0
  obtain ⟨v2, vs2, d2, ds2, p2, q2, rfl, rfl, rfl, h2, r2⟩ := trodAll_cons r1
  obtain ⟨rfl, rfl, rfl⟩ := trodAll_nil r2
  obtain rfl : args = #[v0, v1, v2] := by cases args; simp_all
  obtain ⟨rfl, rfl⟩ := trodVars_none hV
  have k0 := h0
  have lt0 : ∀ x ∈ p0, x.block < W.heap.size := by obtain ⟨m, hm⟩ := k0; exact DataW.trod_lt m _ _ _ hm
  obtain ⟨A00, c00, A01, c01, A02, c02, es0, ts0, cs0, rfl, hi0, hr0⟩ := arg_image (hval 0 26 v0 rfl rfl) h0
  have k1 := h1
  have lt1 : ∀ x ∈ p1, x.block < W.heap.size := by obtain ⟨m, hm⟩ := k1; exact DataW.trod_lt m _ _ _ hm
  obtain ⟨A1, c1, bs1, rfl, hc1⟩ := arg_bytes (hval 1 29 v1 rfl rfl) h1
  obtain ⟨a2, rfl, rfl, rfl, w2⟩ := open_int Try.underlying3 (hval 2 3 v2 rfl rfl) h2
  clear hA0 hval0 hsz0
  refine (cuts_calls _ _ _ _ _ _ _ _ _ _ _ _ a2 W hi0 hc1 hr0).mono fun e W' ⟨he, bel⟩ => ?_
  subst he
  exact ⟨_, rfl, _, _, _, [], _, [], hW', trodAll_mk1 (shut_bool Try.underlying4 _), (trodAll_cons_mk (Below.trod laidOut (by kernel_rfl) (of_decide_eq_true (by kernel_rfl)) k0 bel lt0) (trodAll_cons_mk (Below.trod laidOut (by kernel_rfl) (of_decide_eq_true (by kernel_rfl)) k1 bel lt1) (trodAll_cons_mk (shut_int Try.underlying3 w2) trodAll_mk0))), rfl, bel.frame _, fun h => by cases h⟩
theorem over : Rows.codeCutsRow.holds Try.pinned (OpenSpec.ofChange Rows.codeCutsSpec) :=
  OpenClaim.holds_of_wide 7 Try.f7 rfl rfl rfl rfl rfl rfl rfl ⟨rfl, rfl, rfl, rfl, rfl⟩ rfl rfl rfl rfl rfl (by kernel_rfl) Try.func7 (by kernel_rfl)
    (of_decide_eq_true (by kernel_rfl)) (by unfold Func.isWrapper; first | (rw [if_pos (by decide +kernel)]; kernel_rfl) | (rw [if_neg (by decide +kernel)]; exact ⟨rfl, rfl⟩))
    (fun os started H enc _ => lifted os started H enc)
theorem proved : Rows.CodeCutsSaid := over
#print axioms proved
end Go.Proofs.Ytmjafkhkoifopaa.codeCuts
namespace Go.Proofs.Ytmjafkhkoifopaa
/-- The row, under a short name, for the claim. -/
theorem codeCuts_holds : Rows.CodeCutsSaid := codeCuts.proved
#print axioms codeCuts_holds
end Go.Proofs.Ytmjafkhkoifopaa
