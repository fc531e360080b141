import Derived.Test.YtmjafkhkoifopaaVM6
import Derived.Test.YtmjafkhkoifopaaVN1
section
/- The reference: bytes of numbers, texts and lists. -/
namespace Go.Proofs.Ytmjafkhkoifopaa.C16
open Go.RowKit Go.Proofs.YtmjafkhkoifopaaW.PrintWords Go.Proofs.YtmjafkhkoifopaaW.PrintLast Go.Proofs.YtmjafkhkoifopaaW.PrintMore Go.Proofs.Ytmjafkhkoifopaa.PCodeDecodes
set_option linter.unusedVariables false
set_option linter.unusedSimpArgs false
theorem u64_wrap (n : Int) : IntKind.u64.wrap n = n % 18446744073709551616 := by rfl
theorem rnum_step (k : Nat) (bs : List Int) (x j : Int) (h0 : 0 ≤ x ∧ x < 18446744073709551616) (hj : 0 ≤ j ∧ j < 8) (hl : bs.length < 140737488355328) :
    grapnelref16_num.l0 (k + 1) bs x j = grapnelref16_num.l0 k (bs ++ [x % 256]) (x / 256) (j + 1) := by
  have e1 : Int.tmod x 256 % 256 = x % 256 := by rw [Int.tmod_eq_emod_of_nonneg h0.1]; omega
  have e2 : IntKind.u64.wrap (Int.tdiv x 256) = x / 256 := by rw [u64_wrap, Int.tdiv_eq_ediv_of_nonneg h0.1]; omega
  have e3 : wrap64 (j + 1) = j + 1 := wrap_id (by omega) (by omega)
  rw [grapnelref16_num.l0.eq_2, if_pos hj.2, if_pos hl, e1, e2, e3]
theorem rnum_f (bs : List Int) (n : Int) (hl : bs.length + 8 < 140737488355328) : grapnelref16_num.f 9 bs n = some (bs ++ NB n) := by
  unfold grapnelref16_num.f
  rw [u64_wrap]
  rw [rnum_step 8 _ _ 0 (by omega) (by omega) (by omega)]
  rw [rnum_step 7 _ _ _ (by omega) (by omega) (by simp; omega)]
  rw [rnum_step 6 _ _ _ (by omega) (by omega) (by simp; omega)]
  rw [rnum_step 5 _ _ _ (by omega) (by omega) (by simp; omega)]
  rw [rnum_step 4 _ _ _ (by omega) (by omega) (by simp; omega)]
  rw [rnum_step 3 _ _ _ (by omega) (by omega) (by simp; omega)]
  rw [rnum_step 2 _ _ _ (by omega) (by omega) (by simp; omega)]
  rw [rnum_step 1 _ _ _ (by omega) (by omega) (by simp; omega)]
  rw [grapnelref16_num.l0.eq_2, if_neg (by omega)]
  simp only [List.append_assoc, List.cons_append, List.nil_append, NB]
  congr 2
  have a0 : n % 18446744073709551616 % 256 = n % 256 := by omega
  have a1 : n % 18446744073709551616 / 256 % 256 = n / 256 % 256 := by omega
  have a2 : n % 18446744073709551616 / 256 / 256 % 256 = n / 65536 % 256 := by omega
  have a3 : n % 18446744073709551616 / 256 / 256 / 256 % 256 = n / 16777216 % 256 := by omega
  have a4 : n % 18446744073709551616 / 256 / 256 / 256 / 256 % 256 = n / 4294967296 % 256 := by omega
  have a5 : n % 18446744073709551616 / 256 / 256 / 256 / 256 / 256 % 256 = n / 1099511627776 % 256 := by omega
  have a6 : n % 18446744073709551616 / 256 / 256 / 256 / 256 / 256 / 256 % 256 = n / 281474976710656 % 256 := by omega
  have a7 : n % 18446744073709551616 / 256 / 256 / 256 / 256 / 256 / 256 / 256 % 256 = n / 72057594037927936 % 256 := by omega
  rw [a0, a1, a2, a3, a4, a5, a6, a7]
theorem rnum_f' (bs : List Int) (n : Int) (hl : bs.length + 8 < 140737488355328) (k : Nat) (hk : 9 ≤ k) : grapnelref16_num.f k bs n = some (bs ++ NB n) :=
  LeO.le (f := fun k => grapnelref16_num.f k bs n) (fun k => grapnelref16_num.mono bs n k) hk (rnum_f bs n hl)
theorem rstr_f (bs : List Int) (s : ByteArray) (hl : bs.length + 8 + s.size < 140737488355328) : grapnelref16_str.f 9 bs s = some (bs ++ encText s) := by
  unfold grapnelref16_str.f
  rw [rnum_f bs _ (by omega), Option.bind_some, if_pos (by simp [NB_length]; omega)]
  simp [encText]
theorem rnums_loop (xs : List Int) (hx : xs.length ≤ 140737488355328) : ∀ (d i : Nat) (bs : List Int), xs.length - i = d → i ≤ xs.length → bs.length + 8 * d < 140737488355328 →
    grapnelref16_nums.l0 (d + 10) bs xs i = some (bs ++ (xs.drop i).flatMap NB) := by
  intro d
  induction d with
  | zero =>
    intro i bs hd hi hl
    rw [grapnelref16_nums.l0.eq_2, if_neg (by omega), List.drop_eq_nil_of_le (by omega)]
    simp
  | succ d ih =>
    intro i bs hd hi hl
    have hlt : i < xs.length := by omega
    have e2 : wrap64 ((i : Int) + 1) = ((i + 1 : Nat) : Int) := (wrap_id (by omega) (by omega)).trans (by omega)
    have e3 : rd xs (i : Int) = xs[i] := by simp [rd, List.getD_eq_getElem?_getD, hlt]
    rw [show d + 1 + 10 = (d + 10) + 1 by omega, grapnelref16_nums.l0.eq_2, if_pos (by omega), if_pos (by omega), rnum_f' _ _ (by omega) _ (by omega), Option.bind_some, e2,
      ih (i + 1) _ (by omega) (by omega) (by rw [List.length_append, NB_length]; omega), List.drop_eq_getElem_cons hlt, e3, List.flatMap_cons, List.append_assoc]
theorem rnums_f (bs l : List Int) (hl : bs.length + 8 + 8 * l.length < 140737488355328) : grapnelref16_nums.f (l.length + 10) bs l = some (bs ++ encList l) := by
  unfold grapnelref16_nums.f
  rw [rnum_f' _ _ (by omega) _ (by omega), Option.bind_some]
  have h := rnums_loop l (by omega) l.length 0 (bs ++ NB l.length) (by omega) (by omega) (by rw [List.length_append, NB_length]; omega)
  rw [show ((0 : Nat) : Int) = 0 from rfl, List.drop_zero] at h
  rw [h, encList, List.append_assoc]
section
variable {w0 w w' : World} {bx : List Bx} {v : Value} {acc : List Int}
theorem renc_num (h : EN w0 w bx v acc) (x : Int) (hl : acc.length + 8 < 140737488355328) :
    Calls Try.prog 47 #[v, .int .i64 x] w fun e w' => ∃ v', e = .returned v' ∧ EN w0 w' bx v' (acc ++ NB x) := by
  refine (grapnelref16_num.calls 9 (fun k => some k = v.ownBlock) v acc x _ w0 _ h.bel (Kd.R_tight rfl h.row) (rnum_f acc x hl)).mono ?_
  rintro e w' ⟨v', rfl, ho, hb, hk⟩
  exact ⟨v', rfl, h.moved ho hb hk⟩
theorem renc_str (h : EN w0 w bx v acc) (s : ByteArray) (hl : acc.length + 8 + s.size < 140737488355328) :
    Calls Try.prog 48 #[v, .string s] w fun e w' => ∃ v', e = .returned v' ∧ EN w0 w' bx v' (acc ++ encText s) := by
  refine (grapnelref16_str.calls 9 (fun k => some k = v.ownBlock) v acc s _ w0 _ h.bel (Kd.R_tight rfl h.row) (rstr_f acc s hl)).mono ?_
  rintro e w' ⟨v', rfl, ho, hb, hk⟩
  exact ⟨v', rfl, h.moved ho hb hk⟩
theorem renc_nums (h : EN w0 w bx v acc) (A : Option Addr) (c : Nat) (l : List Int) (hc : l.length ≤ c) (hr : Kd.C (Kd.int .i64) w0 A l.length l) (hl : acc.length + 8 + 8 * l.length < 140737488355328) :
    Calls Try.prog 49 #[v, .slice A l.length c] w fun e w' => ∃ v', e = .returned v' ∧ EN w0 w' bx v' (acc ++ encList l) := by
  refine (grapnelref16_nums.calls (l.length + 10) (fun k => some k = v.ownBlock) v acc A c l _ w0 _ h.bel (Kd.R_tight rfl h.row) (Kd.C_kept_came (Kd.heap_int _) hr h.bel (fun k hk => h.row.1 k hk.symm)) hc (rnums_f acc l hl)).mono ?_
  rintro e w' ⟨v', rfl, ho, hb, hk⟩
  exact ⟨v', rfl, h.moved ho hb hk⟩
end
end Go.Proofs.Ytmjafkhkoifopaa.C16
end
section
/- The reference: an image's bytes. -/
namespace Go.Proofs.Ytmjafkhkoifopaa.C16
open Go.RowKit Go.Proofs.YtmjafkhkoifopaaW.PrintWords Go.Proofs.YtmjafkhkoifopaaW.PrintLast Go.Proofs.YtmjafkhkoifopaaW.PrintMore Go.Proofs.Ytmjafkhkoifopaa.PCodeDecodes
set_option linter.unusedVariables false
set_option linter.unusedSimpArgs false
theorem EN.lit {w : World} (x : Array Value) : EN w ((w.alloc (.cells x 26)).alloc (.cells #[.int .u8 71, .int .u8 82] 5)) [(w.heap.size, x, 26)] (.slice (some ⟨w.heap.size + 1, 0, none⟩) 2 2) [71, 82] := by
  have hs : (w.alloc (.cells x 26)).heap.size = w.heap.size + 1 := by simp
  refine ⟨⟨fun k hk => ?_, [.int .u8 71, .int .u8 82], ?_, ⟨rfl, fun j p hp => ?_⟩⟩, below_alloc (below_alloc (Below.refl w.heap.size w) _) _, fun p hp => ?_⟩
  · have : w.heap.size + 1 = k := by simpa [Value.ownBlock] using hk
    omega
  · have h2 := World.ownsRow_lit (base := w.heap.size) (e := 5) (size := (Kd.int .u8).sz) (w.alloc (.cells x 26)) #[.int .u8 71, .int .u8 82] 2 (by omega) (by decide) (by rfl)
    simpa using h2
  · match j, hp with
    | 0, hp => cases hp; rfl
    | 1, hp => cases hp; rfl
  · obtain rfl := List.mem_singleton.1 hp
    exact ⟨blk_alloc (blk_new w _) _, by simp⟩
set_option maxRecDepth 100000 in
set_option maxHeartbeats 40000000 in
theorem rbytes_go (A0 : Option Addr) (c0 : Nat) (A1 : Option Addr) (c1 : Nat) (A2 : Option Addr) (c2 : Nat) (es : List S45) (ts : List ByteArray) (cs : List S43) (w : World) (hI : ImgAt w A0 c0 A1 c1 A2 c2 es ts cs) (hz : Small cs) (hm : MayOk es ts cs) :
    Calls Try.prog 30 #[imgV A0 c0 A1 c1 A2 c2 es ts cs] w fun e w' => ∃ v, e = .returned v ∧ Kd.R (Kd.int .u8) 5 w' w.heap.size (fun k => w.heap.size ≤ k) v (encImage es ts cs) ∧ Below w.heap.size w w' := by
  have HI := Aside0.mk hI
  have HZ := Aside0.mk hz
  have HM := Aside0.mk hm
  have HL0 := Aside0.mk (EN.lit (w := w) #[.slice A0 es.length c0, .slice A1 ts.length c1, .slice A2 cs.length c2])
  clear hI hz hm
  go_enter Try.func30, Try.ntmps30
  go_wp2_with (go_at_call 47; refine (renc_num HL0.out es.length (by simp)).mono ?_; rintro e w2 ⟨v2, rfl, hen⟩; have HE0 := Aside0.mk hen; clear hen HL0; obtain ⟨hc, hf⟩ := HE0.out.cells _ List.mem_cons_self)
  go_loopw [3, 4] (fun v i wr => ∃ (k : Nat) (acc : List Int), k ≤ es.length ∧ i = .int .i64 k ∧ Aside0 (acc = ([71, 82] ++ NB es.length) ++ (es.take k).flatMap encExn) ∧ Aside0 (acc.length ≤ 10 + 5000 * k) ∧ Aside0 (EN w wr [(w.heap.size, #[.slice A0 es.length c0, .slice A1 ts.length c1, .slice A2 cs.length c2], 26)] v acc))
    (fun _ i _ => es.length - (intOf i).toNat)
  case atStart => exact ⟨0, _, Nat.zero_le _, rfl, ⟨by simp⟩, ⟨by simp [NB]⟩, HE0⟩
  case round =>
    clear HE0 hc hf
    obtain ⟨k, acc, hk, rfl, HA, HL, HE⟩ := hrel
    have m200 := HM.out.1.2.1
    obtain ⟨hc, hf⟩ := HE.out.cells _ List.mem_cons_self
    by_cases hlt : k < es.length
    · obtain ⟨ad, rfl, hc0, hc1⟩ := at_45 HI.out.r0 k hlt
      have HX := Aside0.mk (exn_step HA.out hlt)
      have HSZ2 := Aside0.mk (exn_size HM.out.1 k hlt)
      generalize es[k] = x at *
      have HC1 := Aside0.mk hc1
      have hd0 := pw_cell_below HE.out.bel hc0
      clear hc0 hc1
      rcases Bool.eq_false_or_eq_true x.f1 with hb | hb
      all_goals
        have HC2 := HC1.out
        have HX2 := HX.out
        rw [hb] at HC2
        simp only [hb, if_true, Bool.false_eq_true, if_false] at HX2
        have HC3 := Aside0.mk HC2
        have HX3 := Aside0.mk HX2
        clear HC1 HC2 HX HX2 hb
        go_wp2_with (first
          | (go_at_call 48; refine (renc_str HE.out x.f0 (by have := HL.out; have := HSZ2.out; omega)).mono ?_; rintro e w5 ⟨v5, rfl, hen⟩; have HE2 := Aside0.mk hen; clear hen HE hd0 hc hf; obtain ⟨hc, hf⟩ := HE2.out.cells _ List.mem_cons_self; have hd1 := pw_cell_below HE2.out.bel HC3.out)
          | (go_at_call 47; refine (renc_num HE2.out _ (by rw [List.length_append, encText_length]; have := HL.out; have := HSZ2.out; omega)).mono ?_; rintro e w7 ⟨v7, rfl, hen⟩; have HE3 := Aside0.mk hen; clear hen HE2 hc hf hd1))
        go_roundw
        case rel => exact ⟨k + 1, _, by omega, by go_num, HX3, ⟨by rw [List.length_append, List.length_append, encText_length, NB_length]; have := HL.out; have := HSZ2.out; omega⟩, HE3⟩
        case measure => simp [intOf]; omega
    · have HA2 := Aside0.mk (exn_end HA.out hlt)
      clear HA
      go_wp2_with (go_at_call 47; refine (renc_num HE.out ts.length (by have := HL.out; omega)).mono ?_; rintro e w3 ⟨v3, rfl, hen⟩; have HE0 := Aside0.mk hen; have HA3 := Aside0.mk (congrArg (· ++ NB (ts.length : Int)) HA2.out); have HL3 := Aside0.mk (show (acc ++ NB (ts.length : Int)).length ≤ 1100000 by rw [List.length_append, NB_length]; have := HL.out; omega); clear hen hc hf HE HA2 HL; obtain ⟨hc, hf⟩ := HE0.out.cells _ List.mem_cons_self)
      go_loopw [3, 6] (fun v i wr => ∃ (j : Nat) (acc : List Int), j ≤ ts.length ∧ i = .int .i64 j ∧ Aside0 (acc = ([71, 82] ++ NB es.length ++ es.flatMap encExn ++ NB ts.length) ++ (ts.take j).flatMap encText) ∧ Aside0 (acc.length ≤ 1100000 + 5000 * j) ∧ Aside0 (EN w wr [(w.heap.size, #[.slice A0 es.length c0, .slice A1 ts.length c1, .slice A2 cs.length c2], 26)] v acc))
        (fun _ i _ => ts.length - (intOf i).toNat)
      case atStart => exact ⟨0, _, Nat.zero_le _, rfl, ⟨by rw [HA3.out]; simp⟩, HL3, HE0⟩
      case round =>
        clear HE0 hc hf HA3 HL3
        obtain ⟨j, acc, hj, rfl, HA, HL, HE⟩ := hrel
        have m1000 := HM.out.2.1
        obtain ⟨hc, hf⟩ := HE.out.cells _ List.mem_cons_self
        by_cases hlt2 : j < ts.length
        · obtain ⟨ad, rfl, hc0⟩ := at_string_nat (HI.out.below HE.out.bel).r1 j hlt2
          have HX := Aside0.mk (text_step HA.out hlt2)
          have HSZ2 := Aside0.mk (text_size HM.out j hlt2)
          generalize ts[j] = x at *
          go_wp2_with (go_at_call 48; refine (renc_str HE.out x (by have := HL.out; have := HSZ2.out; omega)).mono ?_; rintro e w5 ⟨v5, rfl, hen⟩; have HE2 := Aside0.mk hen; clear hen HE hc hf hc0)
          go_roundw
          case rel => exact ⟨j + 1, _, by omega, by go_num, HX, ⟨by rw [List.length_append, encText_length]; have := HL.out; have := HSZ2.out; omega⟩, HE2⟩
          case measure => simp [intOf]; omega
        · have HA2 := Aside0.mk (text_end HA.out hlt2)
          clear HA
          go_wp2_with (go_at_call 47; refine (renc_num HE.out cs.length (by have := HL.out; omega)).mono ?_; rintro e w5 ⟨v5, rfl, hen⟩; have HE0 := Aside0.mk hen; have HA3 := Aside0.mk (congrArg (· ++ NB (cs.length : Int)) HA2.out); have HL3 := Aside0.mk (show (acc ++ NB (cs.length : Int)).length ≤ 6200000 by rw [List.length_append, NB_length]; have := HL.out; omega); clear hen hc hf HE HA2 HL; obtain ⟨hc, hf⟩ := HE0.out.cells _ List.mem_cons_self)
          go_loopw [3, 7] (fun v i wr => ∃ (t : Nat) (acc : List Int), t ≤ cs.length ∧ i = .int .i64 t ∧ Aside0 (acc = ([71, 82] ++ NB es.length ++ es.flatMap encExn ++ NB ts.length ++ ts.flatMap encText ++ NB cs.length) ++ (cs.take t).flatMap encIns) ∧ Aside0 (acc.length ≤ 6200000 + 1700000 * t) ∧ Aside0 (EN w wr [(w.heap.size, #[.slice A0 es.length c0, .slice A1 ts.length c1, .slice A2 cs.length c2], 26)] v acc))
            (fun _ i _ => cs.length - (intOf i).toNat)
          case atStart => exact ⟨0, _, Nat.zero_le _, rfl, ⟨by rw [HA3.out]; simp⟩, HL3, HE0⟩
          case round =>
            clear HE0 hc hf HA3 HL3
            obtain ⟨t, acc, ht, rfl, HA, HL, HE⟩ := hrel
            have m8000 := HM.out.2.2.2.1
            obtain ⟨hc, hf⟩ := HE.out.cells _ List.mem_cons_self
            by_cases hlt3 : t < cs.length
            · obtain ⟨ad, A3, n3, A4, n4, A5, n5, rfl, q0, q1, q2, q3, q4, q5, HR⟩ := at_43b HI.out HE.out.bel t hlt3
              have HX := Aside0.mk (ins_step HA.out hlt3)
              have HSM := Aside0.mk (HZ.out _ (List.getElem_mem hlt3))
              have HK := Aside0.mk (HM.out.2.2.2.2.2 t hlt3).1
              clear HA
              generalize cs[t] = x at *
              have HEB := Aside0.mk (HE.out.push #[.int .i64 x.f0, .int .i64 x.f1, .int .i64 x.f2, .slice A3 x.f3.length n3, .slice A4 x.f4.length n4, .slice A5 x.f5.length n5] 43 (by decide))
              clear HE
              obtain ⟨s3, s4, s5⟩ := HSM.out
              clear HSM
              have hl0 := HL.out
              clear HL
              rcases fieldsOf_cases x.f0 with hf0 | hf0 | hf0 | hf0 | hf0 | hf0 | hf0 | hf0
              · exact absurd HK.out (by rw [hf0]; decide)
              · obtain ⟨f, HF, H65, H66, H84, H76⟩ : ∃ f : Int, Aside0 (fieldsOf x.f0 = f) ∧ Aside0 (grapnelref16_has.f 4 (shapeOf f) 65 = some false) ∧ Aside0 (grapnelref16_has.f 4 (shapeOf f) 66 = some false) ∧ Aside0 (grapnelref16_has.f 4 (shapeOf f) 84 = some false) ∧ Aside0 (grapnelref16_has.f 4 (shapeOf f) 76 = some false) := ⟨0, ⟨hf0⟩, ⟨by rw [has_A 0 (by omega)]; rfl⟩, ⟨by rw [has_B 0 (by omega)]; rfl⟩, ⟨by rw [has_T 0 (by omega)]; rfl⟩, ⟨by rw [has_L 0 (by omega)]; rfl⟩⟩
                have HI2 := Aside0.mk (enc_kind0 (x := x) hf0)
                clear hf0
                obtain ⟨hb0, hb1⟩ := HEB.out.cells _ List.mem_cons_self
                obtain ⟨hc', hf'⟩ := HEB.out.cells _ (List.mem_cons_of_mem _ List.mem_cons_self)
                go_wp2_with (first
                  | (go_at_call 36; with_reducible refine (shape_is _ f HF.out _).mono ?_; rintro e w11 ⟨rfl, n11, hn⟩; have HE11 := Aside0.mk (EN.at_ HEB.out n11 hn); clear hn HEB hb0 hb1 hc hf hc' hf'; obtain ⟨hb0, hb1⟩ := HE11.out.cells _ List.mem_cons_self; obtain ⟨hc, hf⟩ := HE11.out.cells _ (List.mem_cons_of_mem _ List.mem_cons_self))
                  | (go_at_call 47; refine (renc_num HE11.out x.f0 (by (try simp only [List.length_append, NB_length, encList_length]); omega)).mono ?_; rintro e w12 ⟨v12, rfl, hen⟩; have HE12 := Aside0.mk hen; clear hen HE11 hb0 hb1 hc hf; obtain ⟨hb0, hb1⟩ := HE12.out.cells _ List.mem_cons_self; obtain ⟨hc, hf⟩ := HE12.out.cells _ (List.mem_cons_of_mem _ List.mem_cons_self))
                  | (go_at_call 37; with_reducible refine (has_is f 65 false H65.out _).mono ?_; rintro e w13 ⟨rfl, n13, hn⟩; have HE13 := Aside0.mk (EN.at_ HE12.out n13 hn); clear hn HE12 hb0 hb1 hc hf; obtain ⟨hb0, hb1⟩ := HE13.out.cells _ List.mem_cons_self; obtain ⟨hc, hf⟩ := HE13.out.cells _ (List.mem_cons_of_mem _ List.mem_cons_self))
                  | (go_at_call 37; with_reducible refine (has_is f 66 false H66.out _).mono ?_; rintro e w14 ⟨rfl, n14, hn⟩; have HE14 := Aside0.mk (EN.at_ HE13.out n14 hn); clear hn HE13 hb0 hb1 hc hf; obtain ⟨hb0, hb1⟩ := HE14.out.cells _ List.mem_cons_self; obtain ⟨hc, hf⟩ := HE14.out.cells _ (List.mem_cons_of_mem _ List.mem_cons_self))
                  | (go_at_call 37; with_reducible refine (has_is f 84 false H84.out _).mono ?_; rintro e w15 ⟨rfl, n15, hn⟩; have HE15 := Aside0.mk (EN.at_ HE14.out n15 hn); clear hn HE14 hb0 hb1 hc hf; obtain ⟨hb0, hb1⟩ := HE15.out.cells _ List.mem_cons_self; obtain ⟨hc, hf⟩ := HE15.out.cells _ (List.mem_cons_of_mem _ List.mem_cons_self))
                  | (go_at_call 37; with_reducible refine (has_is f 76 false H76.out _).mono ?_; rintro e w16 ⟨rfl, n16, hn⟩; have HE16 := Aside0.mk (EN.at_ HE15.out n16 hn); clear hn HE15 hb0 hb1 hc hf; obtain ⟨hb0, hb1⟩ := HE16.out.cells _ List.mem_cons_self; obtain ⟨hc, hf⟩ := HE16.out.cells _ (List.mem_cons_of_mem _ List.mem_cons_self)))
                obtain ⟨pre, HP⟩ : ∃ pre, Aside0 (acc ++ NB x.f0 = pre) := ⟨_, ⟨rfl⟩⟩
                have HPL : Aside0 (pre.length ≤ acc.length + 1100000) := ⟨by rw [← HP.out]; simp only [List.length_append, NB_length, encList_length]; omega⟩
                rw [HP.out] at HE16
                go_loopw [3, 10] (fun v i ws => ∃ (p : Nat) (acc2 : List Int), p ≤ x.f5.length ∧ i = .int .i64 p ∧ Aside0 (acc2 = pre ++ (x.f5.take p).flatMap NB) ∧ Aside0 (acc2.length ≤ acc.length + 1100000 + 8 * p) ∧ Aside0 (EN w ws [(wr.heap.size, #[.int .i64 x.f0, .int .i64 x.f1, .int .i64 x.f2, .slice A3 x.f3.length n3, .slice A4 x.f4.length n4, .slice A5 x.f5.length n5], 43), (w.heap.size, #[.slice A0 es.length c0, .slice A1 ts.length c1, .slice (some ad) cs.length c2], 26)] v acc2))
                  (fun _ i _ => x.f5.length - (intOf i).toNat)
                case atStart => exact ⟨0, _, Nat.zero_le _, rfl, ⟨by simp⟩, HPL, HE16⟩
                case round =>
                  clear HE16 hb0 hb1 hc hf
                  obtain ⟨p, acc2, hp, rfl, HA5, HL5, HE5⟩ := hrel
                  obtain ⟨hb0, hb1⟩ := HE5.out.cells _ List.mem_cons_self
                  obtain ⟨hc, hf⟩ := HE5.out.cells _ (List.mem_cons_of_mem _ List.mem_cons_self)
                  by_cases hlt4 : p < x.f5.length
                  · obtain ⟨ad5, rfl, hc5⟩ := at_int_nat (Kd.C_below HR.out.2.2.2.2.2 HE5.out.bel) p hlt4
                    have HX5 := Aside0.mk (place_step HA5.out hlt4)
                    obtain ⟨y, hy⟩ : ∃ y, x.f5[p] = y := ⟨_, rfl⟩
                    rw [hy] at hc5 HX5
                    clear hy
                    go_wp2_with (go_at_call 47; refine (renc_num HE5.out y (by have := HL5.out; omega)).mono ?_; rintro e w8 ⟨v8, rfl, hen⟩; have HE6 := Aside0.mk hen; clear hen HE5 hb0 hb1 hc hf hc5)
                    go_roundw
                    case rel => exact ⟨p + 1, _, by omega, by go_num, HX5, ⟨by rw [List.length_append, NB_length]; have := HL5.out; omega⟩, HE6⟩
                    case measure => simp [intOf]; omega
                  · have HE6 := HE5
                    have HA6 := Aside0.mk (place_end HA5.out hlt4)
                    have HL6 := HL5
                    clear HE5 HA5 HL5
                    go_wp2
                    go_roundw
                    case rel => exact ⟨t + 1, _, by omega, by go_num, ⟨by rw [HA6.out, ← HP.out, ← HX.out, HI2.out]; simp only [List.append_assoc]⟩, ⟨by have := HL6.out; omega⟩, ⟨HE6.out.pop⟩⟩
                    case measure => simp [intOf]; omega
              · obtain ⟨f, HF, H65, H66, H84, H76⟩ : ∃ f : Int, Aside0 (fieldsOf x.f0 = f) ∧ Aside0 (grapnelref16_has.f 4 (shapeOf f) 65 = some true) ∧ Aside0 (grapnelref16_has.f 4 (shapeOf f) 66 = some false) ∧ Aside0 (grapnelref16_has.f 4 (shapeOf f) 84 = some false) ∧ Aside0 (grapnelref16_has.f 4 (shapeOf f) 76 = some false) := ⟨1, ⟨hf0⟩, ⟨by rw [has_A 1 (by omega)]; rfl⟩, ⟨by rw [has_B 1 (by omega)]; rfl⟩, ⟨by rw [has_T 1 (by omega)]; rfl⟩, ⟨by rw [has_L 1 (by omega)]; rfl⟩⟩
                have HI2 := Aside0.mk (enc_kind1 (x := x) hf0)
                clear hf0
                obtain ⟨hb0, hb1⟩ := HEB.out.cells _ List.mem_cons_self
                obtain ⟨hc', hf'⟩ := HEB.out.cells _ (List.mem_cons_of_mem _ List.mem_cons_self)
                go_wp2_with (first
                  | (go_at_call 36; with_reducible refine (shape_is _ f HF.out _).mono ?_; rintro e w11 ⟨rfl, n11, hn⟩; have HE11 := Aside0.mk (EN.at_ HEB.out n11 hn); clear hn HEB hb0 hb1 hc hf hc' hf'; obtain ⟨hb0, hb1⟩ := HE11.out.cells _ List.mem_cons_self; obtain ⟨hc, hf⟩ := HE11.out.cells _ (List.mem_cons_of_mem _ List.mem_cons_self))
                  | (go_at_call 47; refine (renc_num HE11.out x.f0 (by (try simp only [List.length_append, NB_length, encList_length]); omega)).mono ?_; rintro e w12 ⟨v12, rfl, hen⟩; have HE12 := Aside0.mk hen; clear hen HE11 hb0 hb1 hc hf; obtain ⟨hb0, hb1⟩ := HE12.out.cells _ List.mem_cons_self; obtain ⟨hc, hf⟩ := HE12.out.cells _ (List.mem_cons_of_mem _ List.mem_cons_self))
                  | (go_at_call 37; with_reducible refine (has_is f 65 true H65.out _).mono ?_; rintro e w13 ⟨rfl, n13, hn⟩; have HE13 := Aside0.mk (EN.at_ HE12.out n13 hn); clear hn HE12 hb0 hb1 hc hf; obtain ⟨hb0, hb1⟩ := HE13.out.cells _ List.mem_cons_self; obtain ⟨hc, hf⟩ := HE13.out.cells _ (List.mem_cons_of_mem _ List.mem_cons_self))
                  | (go_at_call 47; refine (renc_num HE13.out x.f1 (by (try simp only [List.length_append, NB_length, encList_length]); omega)).mono ?_; rintro e w14 ⟨v14, rfl, hen⟩; have HE14 := Aside0.mk hen; clear hen HE13 hb0 hb1 hc hf; obtain ⟨hb0, hb1⟩ := HE14.out.cells _ List.mem_cons_self; obtain ⟨hc, hf⟩ := HE14.out.cells _ (List.mem_cons_of_mem _ List.mem_cons_self))
                  | (go_at_call 37; with_reducible refine (has_is f 66 false H66.out _).mono ?_; rintro e w15 ⟨rfl, n15, hn⟩; have HE15 := Aside0.mk (EN.at_ HE14.out n15 hn); clear hn HE14 hb0 hb1 hc hf; obtain ⟨hb0, hb1⟩ := HE15.out.cells _ List.mem_cons_self; obtain ⟨hc, hf⟩ := HE15.out.cells _ (List.mem_cons_of_mem _ List.mem_cons_self))
                  | (go_at_call 37; with_reducible refine (has_is f 84 false H84.out _).mono ?_; rintro e w16 ⟨rfl, n16, hn⟩; have HE16 := Aside0.mk (EN.at_ HE15.out n16 hn); clear hn HE15 hb0 hb1 hc hf; obtain ⟨hb0, hb1⟩ := HE16.out.cells _ List.mem_cons_self; obtain ⟨hc, hf⟩ := HE16.out.cells _ (List.mem_cons_of_mem _ List.mem_cons_self))
                  | (go_at_call 37; with_reducible refine (has_is f 76 false H76.out _).mono ?_; rintro e w17 ⟨rfl, n17, hn⟩; have HE17 := Aside0.mk (EN.at_ HE16.out n17 hn); clear hn HE16 hb0 hb1 hc hf; obtain ⟨hb0, hb1⟩ := HE17.out.cells _ List.mem_cons_self; obtain ⟨hc, hf⟩ := HE17.out.cells _ (List.mem_cons_of_mem _ List.mem_cons_self)))
                obtain ⟨pre, HP⟩ : ∃ pre, Aside0 (acc ++ NB x.f0 ++ NB x.f1 = pre) := ⟨_, ⟨rfl⟩⟩
                have HPL : Aside0 (pre.length ≤ acc.length + 1100000) := ⟨by rw [← HP.out]; simp only [List.length_append, NB_length, encList_length]; omega⟩
                rw [HP.out] at HE17
                go_loopw [3, 10] (fun v i ws => ∃ (p : Nat) (acc2 : List Int), p ≤ x.f5.length ∧ i = .int .i64 p ∧ Aside0 (acc2 = pre ++ (x.f5.take p).flatMap NB) ∧ Aside0 (acc2.length ≤ acc.length + 1100000 + 8 * p) ∧ Aside0 (EN w ws [(wr.heap.size, #[.int .i64 x.f0, .int .i64 x.f1, .int .i64 x.f2, .slice A3 x.f3.length n3, .slice A4 x.f4.length n4, .slice A5 x.f5.length n5], 43), (w.heap.size, #[.slice A0 es.length c0, .slice A1 ts.length c1, .slice (some ad) cs.length c2], 26)] v acc2))
                  (fun _ i _ => x.f5.length - (intOf i).toNat)
                case atStart => exact ⟨0, _, Nat.zero_le _, rfl, ⟨by simp⟩, HPL, HE17⟩
                case round =>
                  clear HE17 hb0 hb1 hc hf
                  obtain ⟨p, acc2, hp, rfl, HA5, HL5, HE5⟩ := hrel
                  obtain ⟨hb0, hb1⟩ := HE5.out.cells _ List.mem_cons_self
                  obtain ⟨hc, hf⟩ := HE5.out.cells _ (List.mem_cons_of_mem _ List.mem_cons_self)
                  by_cases hlt4 : p < x.f5.length
                  · obtain ⟨ad5, rfl, hc5⟩ := at_int_nat (Kd.C_below HR.out.2.2.2.2.2 HE5.out.bel) p hlt4
                    have HX5 := Aside0.mk (place_step HA5.out hlt4)
                    obtain ⟨y, hy⟩ : ∃ y, x.f5[p] = y := ⟨_, rfl⟩
                    rw [hy] at hc5 HX5
                    clear hy
                    go_wp2_with (go_at_call 47; refine (renc_num HE5.out y (by have := HL5.out; omega)).mono ?_; rintro e w8 ⟨v8, rfl, hen⟩; have HE6 := Aside0.mk hen; clear hen HE5 hb0 hb1 hc hf hc5)
                    go_roundw
                    case rel => exact ⟨p + 1, _, by omega, by go_num, HX5, ⟨by rw [List.length_append, NB_length]; have := HL5.out; omega⟩, HE6⟩
                    case measure => simp [intOf]; omega
                  · have HE6 := HE5
                    have HA6 := Aside0.mk (place_end HA5.out hlt4)
                    have HL6 := HL5
                    clear HE5 HA5 HL5
                    go_wp2
                    go_roundw
                    case rel => exact ⟨t + 1, _, by omega, by go_num, ⟨by rw [HA6.out, ← HP.out, ← HX.out, HI2.out]; simp only [List.append_assoc]⟩, ⟨by have := HL6.out; omega⟩, ⟨HE6.out.pop⟩⟩
                    case measure => simp [intOf]; omega
              · obtain ⟨f, HF, H65, H66, H84, H76⟩ : ∃ f : Int, Aside0 (fieldsOf x.f0 = f) ∧ Aside0 (grapnelref16_has.f 4 (shapeOf f) 65 = some true) ∧ Aside0 (grapnelref16_has.f 4 (shapeOf f) 66 = some true) ∧ Aside0 (grapnelref16_has.f 4 (shapeOf f) 84 = some false) ∧ Aside0 (grapnelref16_has.f 4 (shapeOf f) 76 = some false) := ⟨3, ⟨hf0⟩, ⟨by rw [has_A 3 (by omega)]; rfl⟩, ⟨by rw [has_B 3 (by omega)]; rfl⟩, ⟨by rw [has_T 3 (by omega)]; rfl⟩, ⟨by rw [has_L 3 (by omega)]; rfl⟩⟩
                have HI2 := Aside0.mk (enc_kind3 (x := x) hf0)
                clear hf0
                obtain ⟨hb0, hb1⟩ := HEB.out.cells _ List.mem_cons_self
                obtain ⟨hc', hf'⟩ := HEB.out.cells _ (List.mem_cons_of_mem _ List.mem_cons_self)
                go_wp2_with (first
                  | (go_at_call 36; with_reducible refine (shape_is _ f HF.out _).mono ?_; rintro e w11 ⟨rfl, n11, hn⟩; have HE11 := Aside0.mk (EN.at_ HEB.out n11 hn); clear hn HEB hb0 hb1 hc hf hc' hf'; obtain ⟨hb0, hb1⟩ := HE11.out.cells _ List.mem_cons_self; obtain ⟨hc, hf⟩ := HE11.out.cells _ (List.mem_cons_of_mem _ List.mem_cons_self))
                  | (go_at_call 47; refine (renc_num HE11.out x.f0 (by (try simp only [List.length_append, NB_length, encList_length]); omega)).mono ?_; rintro e w12 ⟨v12, rfl, hen⟩; have HE12 := Aside0.mk hen; clear hen HE11 hb0 hb1 hc hf; obtain ⟨hb0, hb1⟩ := HE12.out.cells _ List.mem_cons_self; obtain ⟨hc, hf⟩ := HE12.out.cells _ (List.mem_cons_of_mem _ List.mem_cons_self))
                  | (go_at_call 37; with_reducible refine (has_is f 65 true H65.out _).mono ?_; rintro e w13 ⟨rfl, n13, hn⟩; have HE13 := Aside0.mk (EN.at_ HE12.out n13 hn); clear hn HE12 hb0 hb1 hc hf; obtain ⟨hb0, hb1⟩ := HE13.out.cells _ List.mem_cons_self; obtain ⟨hc, hf⟩ := HE13.out.cells _ (List.mem_cons_of_mem _ List.mem_cons_self))
                  | (go_at_call 47; refine (renc_num HE13.out x.f1 (by (try simp only [List.length_append, NB_length, encList_length]); omega)).mono ?_; rintro e w14 ⟨v14, rfl, hen⟩; have HE14 := Aside0.mk hen; clear hen HE13 hb0 hb1 hc hf; obtain ⟨hb0, hb1⟩ := HE14.out.cells _ List.mem_cons_self; obtain ⟨hc, hf⟩ := HE14.out.cells _ (List.mem_cons_of_mem _ List.mem_cons_self))
                  | (go_at_call 37; with_reducible refine (has_is f 66 true H66.out _).mono ?_; rintro e w15 ⟨rfl, n15, hn⟩; have HE15 := Aside0.mk (EN.at_ HE14.out n15 hn); clear hn HE14 hb0 hb1 hc hf; obtain ⟨hb0, hb1⟩ := HE15.out.cells _ List.mem_cons_self; obtain ⟨hc, hf⟩ := HE15.out.cells _ (List.mem_cons_of_mem _ List.mem_cons_self))
                  | (go_at_call 47; refine (renc_num HE15.out x.f2 (by (try simp only [List.length_append, NB_length, encList_length]); omega)).mono ?_; rintro e w16 ⟨v16, rfl, hen⟩; have HE16 := Aside0.mk hen; clear hen HE15 hb0 hb1 hc hf; obtain ⟨hb0, hb1⟩ := HE16.out.cells _ List.mem_cons_self; obtain ⟨hc, hf⟩ := HE16.out.cells _ (List.mem_cons_of_mem _ List.mem_cons_self))
                  | (go_at_call 37; with_reducible refine (has_is f 84 false H84.out _).mono ?_; rintro e w17 ⟨rfl, n17, hn⟩; have HE17 := Aside0.mk (EN.at_ HE16.out n17 hn); clear hn HE16 hb0 hb1 hc hf; obtain ⟨hb0, hb1⟩ := HE17.out.cells _ List.mem_cons_self; obtain ⟨hc, hf⟩ := HE17.out.cells _ (List.mem_cons_of_mem _ List.mem_cons_self))
                  | (go_at_call 37; with_reducible refine (has_is f 76 false H76.out _).mono ?_; rintro e w18 ⟨rfl, n18, hn⟩; have HE18 := Aside0.mk (EN.at_ HE17.out n18 hn); clear hn HE17 hb0 hb1 hc hf; obtain ⟨hb0, hb1⟩ := HE18.out.cells _ List.mem_cons_self; obtain ⟨hc, hf⟩ := HE18.out.cells _ (List.mem_cons_of_mem _ List.mem_cons_self)))
                obtain ⟨pre, HP⟩ : ∃ pre, Aside0 (acc ++ NB x.f0 ++ NB x.f1 ++ NB x.f2 = pre) := ⟨_, ⟨rfl⟩⟩
                have HPL : Aside0 (pre.length ≤ acc.length + 1100000) := ⟨by rw [← HP.out]; simp only [List.length_append, NB_length, encList_length]; omega⟩
                rw [HP.out] at HE18
                go_loopw [3, 10] (fun v i ws => ∃ (p : Nat) (acc2 : List Int), p ≤ x.f5.length ∧ i = .int .i64 p ∧ Aside0 (acc2 = pre ++ (x.f5.take p).flatMap NB) ∧ Aside0 (acc2.length ≤ acc.length + 1100000 + 8 * p) ∧ Aside0 (EN w ws [(wr.heap.size, #[.int .i64 x.f0, .int .i64 x.f1, .int .i64 x.f2, .slice A3 x.f3.length n3, .slice A4 x.f4.length n4, .slice A5 x.f5.length n5], 43), (w.heap.size, #[.slice A0 es.length c0, .slice A1 ts.length c1, .slice (some ad) cs.length c2], 26)] v acc2))
                  (fun _ i _ => x.f5.length - (intOf i).toNat)
                case atStart => exact ⟨0, _, Nat.zero_le _, rfl, ⟨by simp⟩, HPL, HE18⟩
                case round =>
                  clear HE18 hb0 hb1 hc hf
                  obtain ⟨p, acc2, hp, rfl, HA5, HL5, HE5⟩ := hrel
                  obtain ⟨hb0, hb1⟩ := HE5.out.cells _ List.mem_cons_self
                  obtain ⟨hc, hf⟩ := HE5.out.cells _ (List.mem_cons_of_mem _ List.mem_cons_self)
                  by_cases hlt4 : p < x.f5.length
                  · obtain ⟨ad5, rfl, hc5⟩ := at_int_nat (Kd.C_below HR.out.2.2.2.2.2 HE5.out.bel) p hlt4
                    have HX5 := Aside0.mk (place_step HA5.out hlt4)
                    obtain ⟨y, hy⟩ : ∃ y, x.f5[p] = y := ⟨_, rfl⟩
                    rw [hy] at hc5 HX5
                    clear hy
                    go_wp2_with (go_at_call 47; refine (renc_num HE5.out y (by have := HL5.out; omega)).mono ?_; rintro e w8 ⟨v8, rfl, hen⟩; have HE6 := Aside0.mk hen; clear hen HE5 hb0 hb1 hc hf hc5)
                    go_roundw
                    case rel => exact ⟨p + 1, _, by omega, by go_num, HX5, ⟨by rw [List.length_append, NB_length]; have := HL5.out; omega⟩, HE6⟩
                    case measure => simp [intOf]; omega
                  · have HE6 := HE5
                    have HA6 := Aside0.mk (place_end HA5.out hlt4)
                    have HL6 := HL5
                    clear HE5 HA5 HL5
                    go_wp2
                    go_roundw
                    case rel => exact ⟨t + 1, _, by omega, by go_num, ⟨by rw [HA6.out, ← HP.out, ← HX.out, HI2.out]; simp only [List.append_assoc]⟩, ⟨by have := HL6.out; omega⟩, ⟨HE6.out.pop⟩⟩
                    case measure => simp [intOf]; omega
              · obtain ⟨f, HF, H65, H66, H84, H76⟩ : ∃ f : Int, Aside0 (fieldsOf x.f0 = f) ∧ Aside0 (grapnelref16_has.f 4 (shapeOf f) 65 = some false) ∧ Aside0 (grapnelref16_has.f 4 (shapeOf f) 66 = some false) ∧ Aside0 (grapnelref16_has.f 4 (shapeOf f) 84 = some false) ∧ Aside0 (grapnelref16_has.f 4 (shapeOf f) 76 = some false) := ⟨8, ⟨hf0⟩, ⟨by rw [has_A 8 (by omega)]; rfl⟩, ⟨by rw [has_B 8 (by omega)]; rfl⟩, ⟨by rw [has_T 8 (by omega)]; rfl⟩, ⟨by rw [has_L 8 (by omega)]; rfl⟩⟩
                have HI2 := Aside0.mk (enc_kind8 (x := x) hf0)
                clear hf0
                obtain ⟨hb0, hb1⟩ := HEB.out.cells _ List.mem_cons_self
                obtain ⟨hc', hf'⟩ := HEB.out.cells _ (List.mem_cons_of_mem _ List.mem_cons_self)
                go_wp2_with (first
                  | (go_at_call 36; with_reducible refine (shape_is _ f HF.out _).mono ?_; rintro e w11 ⟨rfl, n11, hn⟩; have HE11 := Aside0.mk (EN.at_ HEB.out n11 hn); clear hn HEB hb0 hb1 hc hf hc' hf'; obtain ⟨hb0, hb1⟩ := HE11.out.cells _ List.mem_cons_self; obtain ⟨hc, hf⟩ := HE11.out.cells _ (List.mem_cons_of_mem _ List.mem_cons_self))
                  | (go_at_call 47; refine (renc_num HE11.out x.f0 (by (try simp only [List.length_append, NB_length, encList_length]); omega)).mono ?_; rintro e w12 ⟨v12, rfl, hen⟩; have HE12 := Aside0.mk hen; clear hen HE11 hb0 hb1 hc hf; obtain ⟨hb0, hb1⟩ := HE12.out.cells _ List.mem_cons_self; obtain ⟨hc, hf⟩ := HE12.out.cells _ (List.mem_cons_of_mem _ List.mem_cons_self))
                  | (go_at_call 37; with_reducible refine (has_is f 65 false H65.out _).mono ?_; rintro e w13 ⟨rfl, n13, hn⟩; have HE13 := Aside0.mk (EN.at_ HE12.out n13 hn); clear hn HE12 hb0 hb1 hc hf; obtain ⟨hb0, hb1⟩ := HE13.out.cells _ List.mem_cons_self; obtain ⟨hc, hf⟩ := HE13.out.cells _ (List.mem_cons_of_mem _ List.mem_cons_self))
                  | (go_at_call 37; with_reducible refine (has_is f 66 false H66.out _).mono ?_; rintro e w14 ⟨rfl, n14, hn⟩; have HE14 := Aside0.mk (EN.at_ HE13.out n14 hn); clear hn HE13 hb0 hb1 hc hf; obtain ⟨hb0, hb1⟩ := HE14.out.cells _ List.mem_cons_self; obtain ⟨hc, hf⟩ := HE14.out.cells _ (List.mem_cons_of_mem _ List.mem_cons_self))
                  | (go_at_call 37; with_reducible refine (has_is f 84 false H84.out _).mono ?_; rintro e w15 ⟨rfl, n15, hn⟩; have HE15 := Aside0.mk (EN.at_ HE14.out n15 hn); clear hn HE14 hb0 hb1 hc hf; obtain ⟨hb0, hb1⟩ := HE15.out.cells _ List.mem_cons_self; obtain ⟨hc, hf⟩ := HE15.out.cells _ (List.mem_cons_of_mem _ List.mem_cons_self))
                  | (go_at_call 37; with_reducible refine (has_is f 76 false H76.out _).mono ?_; rintro e w16 ⟨rfl, n16, hn⟩; have HE16 := Aside0.mk (EN.at_ HE15.out n16 hn); clear hn HE15 hb0 hb1 hc hf; obtain ⟨hb0, hb1⟩ := HE16.out.cells _ List.mem_cons_self; obtain ⟨hc, hf⟩ := HE16.out.cells _ (List.mem_cons_of_mem _ List.mem_cons_self)))
                obtain ⟨pre, HP⟩ : ∃ pre, Aside0 (acc ++ NB x.f0 = pre) := ⟨_, ⟨rfl⟩⟩
                have HPL : Aside0 (pre.length ≤ acc.length + 1100000) := ⟨by rw [← HP.out]; simp only [List.length_append, NB_length, encList_length]; omega⟩
                rw [HP.out] at HE16
                go_loopw [3, 10] (fun v i ws => ∃ (p : Nat) (acc2 : List Int), p ≤ x.f5.length ∧ i = .int .i64 p ∧ Aside0 (acc2 = pre ++ (x.f5.take p).flatMap NB) ∧ Aside0 (acc2.length ≤ acc.length + 1100000 + 8 * p) ∧ Aside0 (EN w ws [(wr.heap.size, #[.int .i64 x.f0, .int .i64 x.f1, .int .i64 x.f2, .slice A3 x.f3.length n3, .slice A4 x.f4.length n4, .slice A5 x.f5.length n5], 43), (w.heap.size, #[.slice A0 es.length c0, .slice A1 ts.length c1, .slice (some ad) cs.length c2], 26)] v acc2))
                  (fun _ i _ => x.f5.length - (intOf i).toNat)
                case atStart => exact ⟨0, _, Nat.zero_le _, rfl, ⟨by simp⟩, HPL, HE16⟩
                case round =>
                  clear HE16 hb0 hb1 hc hf
                  obtain ⟨p, acc2, hp, rfl, HA5, HL5, HE5⟩ := hrel
                  obtain ⟨hb0, hb1⟩ := HE5.out.cells _ List.mem_cons_self
                  obtain ⟨hc, hf⟩ := HE5.out.cells _ (List.mem_cons_of_mem _ List.mem_cons_self)
                  by_cases hlt4 : p < x.f5.length
                  · obtain ⟨ad5, rfl, hc5⟩ := at_int_nat (Kd.C_below HR.out.2.2.2.2.2 HE5.out.bel) p hlt4
                    have HX5 := Aside0.mk (place_step HA5.out hlt4)
                    obtain ⟨y, hy⟩ : ∃ y, x.f5[p] = y := ⟨_, rfl⟩
                    rw [hy] at hc5 HX5
                    clear hy
                    go_wp2_with (go_at_call 47; refine (renc_num HE5.out y (by have := HL5.out; omega)).mono ?_; rintro e w8 ⟨v8, rfl, hen⟩; have HE6 := Aside0.mk hen; clear hen HE5 hb0 hb1 hc hf hc5)
                    go_roundw
                    case rel => exact ⟨p + 1, _, by omega, by go_num, HX5, ⟨by rw [List.length_append, NB_length]; have := HL5.out; omega⟩, HE6⟩
                    case measure => simp [intOf]; omega
                  · have HE6 := HE5
                    have HA6 := Aside0.mk (place_end HA5.out hlt4)
                    have HL6 := HL5
                    clear HE5 HA5 HL5
                    go_wp2
                    go_roundw
                    case rel => exact ⟨t + 1, _, by omega, by go_num, ⟨by rw [HA6.out, ← HP.out, ← HX.out, HI2.out]; simp only [List.append_assoc]⟩, ⟨by have := HL6.out; omega⟩, ⟨HE6.out.pop⟩⟩
                    case measure => simp [intOf]; omega
              · obtain ⟨f, HF, H65, H66, H84, H76⟩ : ∃ f : Int, Aside0 (fieldsOf x.f0 = f) ∧ Aside0 (grapnelref16_has.f 4 (shapeOf f) 65 = some true) ∧ Aside0 (grapnelref16_has.f 4 (shapeOf f) 66 = some false) ∧ Aside0 (grapnelref16_has.f 4 (shapeOf f) 84 = some false) ∧ Aside0 (grapnelref16_has.f 4 (shapeOf f) 76 = some false) := ⟨9, ⟨hf0⟩, ⟨by rw [has_A 9 (by omega)]; rfl⟩, ⟨by rw [has_B 9 (by omega)]; rfl⟩, ⟨by rw [has_T 9 (by omega)]; rfl⟩, ⟨by rw [has_L 9 (by omega)]; rfl⟩⟩
                have HI2 := Aside0.mk (enc_kind9 (x := x) hf0)
                clear hf0
                obtain ⟨hb0, hb1⟩ := HEB.out.cells _ List.mem_cons_self
                obtain ⟨hc', hf'⟩ := HEB.out.cells _ (List.mem_cons_of_mem _ List.mem_cons_self)
                go_wp2_with (first
                  | (go_at_call 36; with_reducible refine (shape_is _ f HF.out _).mono ?_; rintro e w11 ⟨rfl, n11, hn⟩; have HE11 := Aside0.mk (EN.at_ HEB.out n11 hn); clear hn HEB hb0 hb1 hc hf hc' hf'; obtain ⟨hb0, hb1⟩ := HE11.out.cells _ List.mem_cons_self; obtain ⟨hc, hf⟩ := HE11.out.cells _ (List.mem_cons_of_mem _ List.mem_cons_self))
                  | (go_at_call 47; refine (renc_num HE11.out x.f0 (by (try simp only [List.length_append, NB_length, encList_length]); omega)).mono ?_; rintro e w12 ⟨v12, rfl, hen⟩; have HE12 := Aside0.mk hen; clear hen HE11 hb0 hb1 hc hf; obtain ⟨hb0, hb1⟩ := HE12.out.cells _ List.mem_cons_self; obtain ⟨hc, hf⟩ := HE12.out.cells _ (List.mem_cons_of_mem _ List.mem_cons_self))
                  | (go_at_call 37; with_reducible refine (has_is f 65 true H65.out _).mono ?_; rintro e w13 ⟨rfl, n13, hn⟩; have HE13 := Aside0.mk (EN.at_ HE12.out n13 hn); clear hn HE12 hb0 hb1 hc hf; obtain ⟨hb0, hb1⟩ := HE13.out.cells _ List.mem_cons_self; obtain ⟨hc, hf⟩ := HE13.out.cells _ (List.mem_cons_of_mem _ List.mem_cons_self))
                  | (go_at_call 47; refine (renc_num HE13.out x.f1 (by (try simp only [List.length_append, NB_length, encList_length]); omega)).mono ?_; rintro e w14 ⟨v14, rfl, hen⟩; have HE14 := Aside0.mk hen; clear hen HE13 hb0 hb1 hc hf; obtain ⟨hb0, hb1⟩ := HE14.out.cells _ List.mem_cons_self; obtain ⟨hc, hf⟩ := HE14.out.cells _ (List.mem_cons_of_mem _ List.mem_cons_self))
                  | (go_at_call 37; with_reducible refine (has_is f 66 false H66.out _).mono ?_; rintro e w15 ⟨rfl, n15, hn⟩; have HE15 := Aside0.mk (EN.at_ HE14.out n15 hn); clear hn HE14 hb0 hb1 hc hf; obtain ⟨hb0, hb1⟩ := HE15.out.cells _ List.mem_cons_self; obtain ⟨hc, hf⟩ := HE15.out.cells _ (List.mem_cons_of_mem _ List.mem_cons_self))
                  | (go_at_call 37; with_reducible refine (has_is f 84 false H84.out _).mono ?_; rintro e w16 ⟨rfl, n16, hn⟩; have HE16 := Aside0.mk (EN.at_ HE15.out n16 hn); clear hn HE15 hb0 hb1 hc hf; obtain ⟨hb0, hb1⟩ := HE16.out.cells _ List.mem_cons_self; obtain ⟨hc, hf⟩ := HE16.out.cells _ (List.mem_cons_of_mem _ List.mem_cons_self))
                  | (go_at_call 37; with_reducible refine (has_is f 76 false H76.out _).mono ?_; rintro e w17 ⟨rfl, n17, hn⟩; have HE17 := Aside0.mk (EN.at_ HE16.out n17 hn); clear hn HE16 hb0 hb1 hc hf; obtain ⟨hb0, hb1⟩ := HE17.out.cells _ List.mem_cons_self; obtain ⟨hc, hf⟩ := HE17.out.cells _ (List.mem_cons_of_mem _ List.mem_cons_self)))
                obtain ⟨pre, HP⟩ : ∃ pre, Aside0 (acc ++ NB x.f0 ++ NB x.f1 = pre) := ⟨_, ⟨rfl⟩⟩
                have HPL : Aside0 (pre.length ≤ acc.length + 1100000) := ⟨by rw [← HP.out]; simp only [List.length_append, NB_length, encList_length]; omega⟩
                rw [HP.out] at HE17
                go_loopw [3, 10] (fun v i ws => ∃ (p : Nat) (acc2 : List Int), p ≤ x.f5.length ∧ i = .int .i64 p ∧ Aside0 (acc2 = pre ++ (x.f5.take p).flatMap NB) ∧ Aside0 (acc2.length ≤ acc.length + 1100000 + 8 * p) ∧ Aside0 (EN w ws [(wr.heap.size, #[.int .i64 x.f0, .int .i64 x.f1, .int .i64 x.f2, .slice A3 x.f3.length n3, .slice A4 x.f4.length n4, .slice A5 x.f5.length n5], 43), (w.heap.size, #[.slice A0 es.length c0, .slice A1 ts.length c1, .slice (some ad) cs.length c2], 26)] v acc2))
                  (fun _ i _ => x.f5.length - (intOf i).toNat)
                case atStart => exact ⟨0, _, Nat.zero_le _, rfl, ⟨by simp⟩, HPL, HE17⟩
                case round =>
                  clear HE17 hb0 hb1 hc hf
                  obtain ⟨p, acc2, hp, rfl, HA5, HL5, HE5⟩ := hrel
                  obtain ⟨hb0, hb1⟩ := HE5.out.cells _ List.mem_cons_self
                  obtain ⟨hc, hf⟩ := HE5.out.cells _ (List.mem_cons_of_mem _ List.mem_cons_self)
                  by_cases hlt4 : p < x.f5.length
                  · obtain ⟨ad5, rfl, hc5⟩ := at_int_nat (Kd.C_below HR.out.2.2.2.2.2 HE5.out.bel) p hlt4
                    have HX5 := Aside0.mk (place_step HA5.out hlt4)
                    obtain ⟨y, hy⟩ : ∃ y, x.f5[p] = y := ⟨_, rfl⟩
                    rw [hy] at hc5 HX5
                    clear hy
                    go_wp2_with (go_at_call 47; refine (renc_num HE5.out y (by have := HL5.out; omega)).mono ?_; rintro e w8 ⟨v8, rfl, hen⟩; have HE6 := Aside0.mk hen; clear hen HE5 hb0 hb1 hc hf hc5)
                    go_roundw
                    case rel => exact ⟨p + 1, _, by omega, by go_num, HX5, ⟨by rw [List.length_append, NB_length]; have := HL5.out; omega⟩, HE6⟩
                    case measure => simp [intOf]; omega
                  · have HE6 := HE5
                    have HA6 := Aside0.mk (place_end HA5.out hlt4)
                    have HL6 := HL5
                    clear HE5 HA5 HL5
                    go_wp2
                    go_roundw
                    case rel => exact ⟨t + 1, _, by omega, by go_num, ⟨by rw [HA6.out, ← HP.out, ← HX.out, HI2.out]; simp only [List.append_assoc]⟩, ⟨by have := HL6.out; omega⟩, ⟨HE6.out.pop⟩⟩
                    case measure => simp [intOf]; omega
              · obtain ⟨f, HF, H65, H66, H84, H76⟩ : ∃ f : Int, Aside0 (fieldsOf x.f0 = f) ∧ Aside0 (grapnelref16_has.f 4 (shapeOf f) 65 = some true) ∧ Aside0 (grapnelref16_has.f 4 (shapeOf f) 66 = some false) ∧ Aside0 (grapnelref16_has.f 4 (shapeOf f) 84 = some false) ∧ Aside0 (grapnelref16_has.f 4 (shapeOf f) 76 = some true) := ⟨17, ⟨hf0⟩, ⟨by rw [has_A 17 (by omega)]; rfl⟩, ⟨by rw [has_B 17 (by omega)]; rfl⟩, ⟨by rw [has_T 17 (by omega)]; rfl⟩, ⟨by rw [has_L 17 (by omega)]; rfl⟩⟩
                have HI2 := Aside0.mk (enc_kind17 (x := x) hf0)
                clear hf0
                obtain ⟨hb0, hb1⟩ := HEB.out.cells _ List.mem_cons_self
                obtain ⟨hc', hf'⟩ := HEB.out.cells _ (List.mem_cons_of_mem _ List.mem_cons_self)
                go_wp2_with (first
                  | (go_at_call 36; with_reducible refine (shape_is _ f HF.out _).mono ?_; rintro e w11 ⟨rfl, n11, hn⟩; have HE11 := Aside0.mk (EN.at_ HEB.out n11 hn); clear hn HEB hb0 hb1 hc hf hc' hf'; obtain ⟨hb0, hb1⟩ := HE11.out.cells _ List.mem_cons_self; obtain ⟨hc, hf⟩ := HE11.out.cells _ (List.mem_cons_of_mem _ List.mem_cons_self))
                  | (go_at_call 47; refine (renc_num HE11.out x.f0 (by (try simp only [List.length_append, NB_length, encList_length]); omega)).mono ?_; rintro e w12 ⟨v12, rfl, hen⟩; have HE12 := Aside0.mk hen; clear hen HE11 hb0 hb1 hc hf; obtain ⟨hb0, hb1⟩ := HE12.out.cells _ List.mem_cons_self; obtain ⟨hc, hf⟩ := HE12.out.cells _ (List.mem_cons_of_mem _ List.mem_cons_self))
                  | (go_at_call 37; with_reducible refine (has_is f 65 true H65.out _).mono ?_; rintro e w13 ⟨rfl, n13, hn⟩; have HE13 := Aside0.mk (EN.at_ HE12.out n13 hn); clear hn HE12 hb0 hb1 hc hf; obtain ⟨hb0, hb1⟩ := HE13.out.cells _ List.mem_cons_self; obtain ⟨hc, hf⟩ := HE13.out.cells _ (List.mem_cons_of_mem _ List.mem_cons_self))
                  | (go_at_call 47; refine (renc_num HE13.out x.f1 (by (try simp only [List.length_append, NB_length, encList_length]); omega)).mono ?_; rintro e w14 ⟨v14, rfl, hen⟩; have HE14 := Aside0.mk hen; clear hen HE13 hb0 hb1 hc hf; obtain ⟨hb0, hb1⟩ := HE14.out.cells _ List.mem_cons_self; obtain ⟨hc, hf⟩ := HE14.out.cells _ (List.mem_cons_of_mem _ List.mem_cons_self))
                  | (go_at_call 37; with_reducible refine (has_is f 66 false H66.out _).mono ?_; rintro e w15 ⟨rfl, n15, hn⟩; have HE15 := Aside0.mk (EN.at_ HE14.out n15 hn); clear hn HE14 hb0 hb1 hc hf; obtain ⟨hb0, hb1⟩ := HE15.out.cells _ List.mem_cons_self; obtain ⟨hc, hf⟩ := HE15.out.cells _ (List.mem_cons_of_mem _ List.mem_cons_self))
                  | (go_at_call 37; with_reducible refine (has_is f 84 false H84.out _).mono ?_; rintro e w16 ⟨rfl, n16, hn⟩; have HE16 := Aside0.mk (EN.at_ HE15.out n16 hn); clear hn HE15 hb0 hb1 hc hf; obtain ⟨hb0, hb1⟩ := HE16.out.cells _ List.mem_cons_self; obtain ⟨hc, hf⟩ := HE16.out.cells _ (List.mem_cons_of_mem _ List.mem_cons_self))
                  | (go_at_call 37; with_reducible refine (has_is f 76 true H76.out _).mono ?_; rintro e w17 ⟨rfl, n17, hn⟩; have HE17 := Aside0.mk (EN.at_ HE16.out n17 hn); clear hn HE16 hb0 hb1 hc hf; obtain ⟨hb0, hb1⟩ := HE17.out.cells _ List.mem_cons_self; obtain ⟨hc, hf⟩ := HE17.out.cells _ (List.mem_cons_of_mem _ List.mem_cons_self))
                  | (go_at_call 47; refine (renc_num HE17.out x.f5.length (by (try simp only [List.length_append, NB_length, encList_length]); omega)).mono ?_; rintro e w18 ⟨v18, rfl, hen⟩; have HE18 := Aside0.mk hen; clear hen HE17 hb0 hb1 hc hf; obtain ⟨hb0, hb1⟩ := HE18.out.cells _ List.mem_cons_self; obtain ⟨hc, hf⟩ := HE18.out.cells _ (List.mem_cons_of_mem _ List.mem_cons_self)))
                obtain ⟨pre, HP⟩ : ∃ pre, Aside0 (acc ++ NB x.f0 ++ NB x.f1 ++ NB x.f5.length = pre) := ⟨_, ⟨rfl⟩⟩
                have HPL : Aside0 (pre.length ≤ acc.length + 1100000) := ⟨by rw [← HP.out]; simp only [List.length_append, NB_length, encList_length]; omega⟩
                rw [HP.out] at HE18
                go_loopw [3, 10] (fun v i ws => ∃ (p : Nat) (acc2 : List Int), p ≤ x.f5.length ∧ i = .int .i64 p ∧ Aside0 (acc2 = pre ++ (x.f5.take p).flatMap NB) ∧ Aside0 (acc2.length ≤ acc.length + 1100000 + 8 * p) ∧ Aside0 (EN w ws [(wr.heap.size, #[.int .i64 x.f0, .int .i64 x.f1, .int .i64 x.f2, .slice A3 x.f3.length n3, .slice A4 x.f4.length n4, .slice A5 x.f5.length n5], 43), (w.heap.size, #[.slice A0 es.length c0, .slice A1 ts.length c1, .slice (some ad) cs.length c2], 26)] v acc2))
                  (fun _ i _ => x.f5.length - (intOf i).toNat)
                case atStart => exact ⟨0, _, Nat.zero_le _, rfl, ⟨by simp⟩, HPL, HE18⟩
                case round =>
                  clear HE18 hb0 hb1 hc hf
                  obtain ⟨p, acc2, hp, rfl, HA5, HL5, HE5⟩ := hrel
                  obtain ⟨hb0, hb1⟩ := HE5.out.cells _ List.mem_cons_self
                  obtain ⟨hc, hf⟩ := HE5.out.cells _ (List.mem_cons_of_mem _ List.mem_cons_self)
                  by_cases hlt4 : p < x.f5.length
                  · obtain ⟨ad5, rfl, hc5⟩ := at_int_nat (Kd.C_below HR.out.2.2.2.2.2 HE5.out.bel) p hlt4
                    have HX5 := Aside0.mk (place_step HA5.out hlt4)
                    obtain ⟨y, hy⟩ : ∃ y, x.f5[p] = y := ⟨_, rfl⟩
                    rw [hy] at hc5 HX5
                    clear hy
                    go_wp2_with (go_at_call 47; refine (renc_num HE5.out y (by have := HL5.out; omega)).mono ?_; rintro e w8 ⟨v8, rfl, hen⟩; have HE6 := Aside0.mk hen; clear hen HE5 hb0 hb1 hc hf hc5)
                    go_roundw
                    case rel => exact ⟨p + 1, _, by omega, by go_num, HX5, ⟨by rw [List.length_append, NB_length]; have := HL5.out; omega⟩, HE6⟩
                    case measure => simp [intOf]; omega
                  · have HE6 := HE5
                    have HA6 := Aside0.mk (place_end HA5.out hlt4)
                    have HL6 := HL5
                    clear HE5 HA5 HL5
                    go_wp2
                    go_roundw
                    case rel => exact ⟨t + 1, _, by omega, by go_num, ⟨by rw [HA6.out, ← HP.out, ← HX.out, HI2.out]; simp only [List.append_assoc]⟩, ⟨by have := HL6.out; omega⟩, ⟨HE6.out.pop⟩⟩
                    case measure => simp [intOf]; omega
              · obtain ⟨f, HF, H65, H66, H84, H76⟩ : ∃ f : Int, Aside0 (fieldsOf x.f0 = f) ∧ Aside0 (grapnelref16_has.f 4 (shapeOf f) 65 = some false) ∧ Aside0 (grapnelref16_has.f 4 (shapeOf f) 66 = some false) ∧ Aside0 (grapnelref16_has.f 4 (shapeOf f) 84 = some true) ∧ Aside0 (grapnelref16_has.f 4 (shapeOf f) 76 = some true) := ⟨20, ⟨hf0⟩, ⟨by rw [has_A 20 (by omega)]; rfl⟩, ⟨by rw [has_B 20 (by omega)]; rfl⟩, ⟨by rw [has_T 20 (by omega)]; rfl⟩, ⟨by rw [has_L 20 (by omega)]; rfl⟩⟩
                have HI2 := Aside0.mk (enc_kind20 (x := x) hf0)
                clear hf0
                obtain ⟨hb0, hb1⟩ := HEB.out.cells _ List.mem_cons_self
                obtain ⟨hc', hf'⟩ := HEB.out.cells _ (List.mem_cons_of_mem _ List.mem_cons_self)
                go_wp2_with (first
                  | (go_at_call 36; with_reducible refine (shape_is _ f HF.out _).mono ?_; rintro e w11 ⟨rfl, n11, hn⟩; have HE11 := Aside0.mk (EN.at_ HEB.out n11 hn); clear hn HEB hb0 hb1 hc hf hc' hf'; obtain ⟨hb0, hb1⟩ := HE11.out.cells _ List.mem_cons_self; obtain ⟨hc, hf⟩ := HE11.out.cells _ (List.mem_cons_of_mem _ List.mem_cons_self))
                  | (go_at_call 47; refine (renc_num HE11.out x.f0 (by (try simp only [List.length_append, NB_length, encList_length]); omega)).mono ?_; rintro e w12 ⟨v12, rfl, hen⟩; have HE12 := Aside0.mk hen; clear hen HE11 hb0 hb1 hc hf; obtain ⟨hb0, hb1⟩ := HE12.out.cells _ List.mem_cons_self; obtain ⟨hc, hf⟩ := HE12.out.cells _ (List.mem_cons_of_mem _ List.mem_cons_self))
                  | (go_at_call 37; with_reducible refine (has_is f 65 false H65.out _).mono ?_; rintro e w13 ⟨rfl, n13, hn⟩; have HE13 := Aside0.mk (EN.at_ HE12.out n13 hn); clear hn HE12 hb0 hb1 hc hf; obtain ⟨hb0, hb1⟩ := HE13.out.cells _ List.mem_cons_self; obtain ⟨hc, hf⟩ := HE13.out.cells _ (List.mem_cons_of_mem _ List.mem_cons_self))
                  | (go_at_call 37; with_reducible refine (has_is f 66 false H66.out _).mono ?_; rintro e w14 ⟨rfl, n14, hn⟩; have HE14 := Aside0.mk (EN.at_ HE13.out n14 hn); clear hn HE13 hb0 hb1 hc hf; obtain ⟨hb0, hb1⟩ := HE14.out.cells _ List.mem_cons_self; obtain ⟨hc, hf⟩ := HE14.out.cells _ (List.mem_cons_of_mem _ List.mem_cons_self))
                  | (go_at_call 37; with_reducible refine (has_is f 84 true H84.out _).mono ?_; rintro e w15 ⟨rfl, n15, hn⟩; have HE15 := Aside0.mk (EN.at_ HE14.out n15 hn); clear hn HE14 hb0 hb1 hc hf; obtain ⟨hb0, hb1⟩ := HE15.out.cells _ List.mem_cons_self; obtain ⟨hc, hf⟩ := HE15.out.cells _ (List.mem_cons_of_mem _ List.mem_cons_self))
                  | (go_at_call 49; refine (renc_nums HE15.out A3 n3 x.f3 HR.out.1 HR.out.2.1 (by (try simp only [List.length_append, NB_length, encList_length]); omega)).mono ?_; rintro e w16 ⟨v16, rfl, hen⟩; have HE16 := Aside0.mk hen; clear hen HE15 hb0 hb1 hc hf; obtain ⟨hb0, hb1⟩ := HE16.out.cells _ List.mem_cons_self; obtain ⟨hc, hf⟩ := HE16.out.cells _ (List.mem_cons_of_mem _ List.mem_cons_self))
                  | (go_at_call 49; refine (renc_nums HE16.out A4 n4 x.f4 HR.out.2.2.1 HR.out.2.2.2.1 (by (try simp only [List.length_append, NB_length, encList_length]); omega)).mono ?_; rintro e w17 ⟨v17, rfl, hen⟩; have HE17 := Aside0.mk hen; clear hen HE16 hb0 hb1 hc hf; obtain ⟨hb0, hb1⟩ := HE17.out.cells _ List.mem_cons_self; obtain ⟨hc, hf⟩ := HE17.out.cells _ (List.mem_cons_of_mem _ List.mem_cons_self))
                  | (go_at_call 37; with_reducible refine (has_is f 76 true H76.out _).mono ?_; rintro e w18 ⟨rfl, n18, hn⟩; have HE18 := Aside0.mk (EN.at_ HE17.out n18 hn); clear hn HE17 hb0 hb1 hc hf; obtain ⟨hb0, hb1⟩ := HE18.out.cells _ List.mem_cons_self; obtain ⟨hc, hf⟩ := HE18.out.cells _ (List.mem_cons_of_mem _ List.mem_cons_self))
                  | (go_at_call 47; refine (renc_num HE18.out x.f5.length (by (try simp only [List.length_append, NB_length, encList_length]); omega)).mono ?_; rintro e w19 ⟨v19, rfl, hen⟩; have HE19 := Aside0.mk hen; clear hen HE18 hb0 hb1 hc hf; obtain ⟨hb0, hb1⟩ := HE19.out.cells _ List.mem_cons_self; obtain ⟨hc, hf⟩ := HE19.out.cells _ (List.mem_cons_of_mem _ List.mem_cons_self)))
                obtain ⟨pre, HP⟩ : ∃ pre, Aside0 (acc ++ NB x.f0 ++ encList x.f3 ++ encList x.f4 ++ NB x.f5.length = pre) := ⟨_, ⟨rfl⟩⟩
                have HPL : Aside0 (pre.length ≤ acc.length + 1100000) := ⟨by rw [← HP.out]; simp only [List.length_append, NB_length, encList_length]; omega⟩
                rw [HP.out] at HE19
                go_loopw [3, 10] (fun v i ws => ∃ (p : Nat) (acc2 : List Int), p ≤ x.f5.length ∧ i = .int .i64 p ∧ Aside0 (acc2 = pre ++ (x.f5.take p).flatMap NB) ∧ Aside0 (acc2.length ≤ acc.length + 1100000 + 8 * p) ∧ Aside0 (EN w ws [(wr.heap.size, #[.int .i64 x.f0, .int .i64 x.f1, .int .i64 x.f2, .slice A3 x.f3.length n3, .slice A4 x.f4.length n4, .slice A5 x.f5.length n5], 43), (w.heap.size, #[.slice A0 es.length c0, .slice A1 ts.length c1, .slice (some ad) cs.length c2], 26)] v acc2))
                  (fun _ i _ => x.f5.length - (intOf i).toNat)
                case atStart => exact ⟨0, _, Nat.zero_le _, rfl, ⟨by simp⟩, HPL, HE19⟩
                case round =>
                  clear HE19 hb0 hb1 hc hf
                  obtain ⟨p, acc2, hp, rfl, HA5, HL5, HE5⟩ := hrel
                  obtain ⟨hb0, hb1⟩ := HE5.out.cells _ List.mem_cons_self
                  obtain ⟨hc, hf⟩ := HE5.out.cells _ (List.mem_cons_of_mem _ List.mem_cons_self)
                  by_cases hlt4 : p < x.f5.length
                  · obtain ⟨ad5, rfl, hc5⟩ := at_int_nat (Kd.C_below HR.out.2.2.2.2.2 HE5.out.bel) p hlt4
                    have HX5 := Aside0.mk (place_step HA5.out hlt4)
                    obtain ⟨y, hy⟩ : ∃ y, x.f5[p] = y := ⟨_, rfl⟩
                    rw [hy] at hc5 HX5
                    clear hy
                    go_wp2_with (go_at_call 47; refine (renc_num HE5.out y (by have := HL5.out; omega)).mono ?_; rintro e w8 ⟨v8, rfl, hen⟩; have HE6 := Aside0.mk hen; clear hen HE5 hb0 hb1 hc hf hc5)
                    go_roundw
                    case rel => exact ⟨p + 1, _, by omega, by go_num, HX5, ⟨by rw [List.length_append, NB_length]; have := HL5.out; omega⟩, HE6⟩
                    case measure => simp [intOf]; omega
                  · have HE6 := HE5
                    have HA6 := Aside0.mk (place_end HA5.out hlt4)
                    have HL6 := HL5
                    clear HE5 HA5 HL5
                    go_wp2
                    go_roundw
                    case rel => exact ⟨t + 1, _, by omega, by go_num, ⟨by rw [HA6.out, ← HP.out, ← HX.out, HI2.out]; simp only [List.append_assoc]⟩, ⟨by have := HL6.out; omega⟩, ⟨HE6.out.pop⟩⟩
                    case measure => simp [intOf]; omega
            · have hA := ins_end HA.out hlt3
              have hR := HE.out.row
              rw [hA] at hR
              have HMI := Aside0.mk hR
              have HBL := Aside0.mk HE.out.bel
              clear hA HL HA HE hR
              go_wp2
              go_ret
              exact ⟨_, rfl, HMI.out, HBL.out⟩
end Go.Proofs.Ytmjafkhkoifopaa.C16
end
